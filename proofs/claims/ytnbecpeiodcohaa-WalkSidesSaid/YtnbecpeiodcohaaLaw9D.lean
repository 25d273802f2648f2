/- parquetrylaw09.WalkSides, the walk: it answers true. Conditions: the bytes lie in memory. -/
import Derived.Test.YtnbecpeiodcohaaLaw9A
import Derived.Test.YtnbecpeiodcohaaWalkH
import Derived.Test.YtnbecpeiodcohaaWalkI
import Derived.Test.YtnbecpeiodcohaaRefG
import Derived.Test.YtnbecpeiodcohaaLaw8P
import Derived.BigQuiet
namespace Go.Proofs.Ytnbecpeiodcohaa
open Go.RowKit
set_option linter.unusedVariables false

/-- how many of the walk's steps are of a kind -/
def leftL (xs : List (Int × Int)) : Nat := xs.foldl (fun c x => if x.2 = 2 then c + 1 else c) 0
theorem leftL_succ {xs : List (Int × Int)} {i : Nat} (h : i < xs.length) : leftL (xs.take (i + 1)) = if (nthS xs i).2 = 2 then leftL (xs.take i) + 1 else leftL (xs.take i) := by
  unfold leftL
  rw [List.take_add_one, List.getElem?_eq_getElem h, List.foldl_append, nthS_get h]
  rfl
theorem leftL_walk (s : List Nat) (V root : Nat) : ∀ n, leftL (stepL s V root n) = wcnt s V root 2 n
  | 0 => rfl
  | n + 1 => by
    rw [stepL_succ, wcnt_succ, ← leftL_walk s V root n]
    unfold leftL
    rw [List.foldl_append]
    show (if ((wk s V root n : Nat) : Int) = 2 then _ else _) = _
    by_cases hk : wk s V root n = 2
    · rw [if_pos hk, if_pos (by omega)]
    · rw [if_neg hk, if_neg (by omega)]; rfl
theorem leftL_le (xs : List (Int × Int)) : ∀ (i : Nat), i ≤ xs.length → leftL (xs.take i) ≤ i
  | 0, _ => by simp [leftL]
  | i + 1, h => by
    have ih := leftL_le xs i (by omega)
    rw [leftL_succ (by omega)]
    split <;> omega

theorem dcnt_ecnt {N : List Int} {k : Int} : ∀ {m : Nat}, (∀ i, i < m → nth N (2 * i + 1) = nth N (2 * i)) → dcnt N k (2 * m) = 2 * ecnt N k (2 * m)
  | 0, _ => rfl
  | m + 1, h => by
    have ih := dcnt_ecnt (k := k) (m := m) fun i hi => h i (by omega)
    have e := h m (by omega)
    have e2 : 2 * (m + 1) = 2 * m + 1 + 1 := by omega
    rw [e2, dcnt_succ, dcnt_succ, ecnt_succ, ecnt_succ, ih, e]
    by_cases hk : nth N (2 * m) = k
    · rw [if_pos hk, if_pos hk, if_pos hk]; omega
    · rw [if_neg hk, if_neg hk, if_neg hk]; omega
theorem dcnt_edges {s : List Nat} (hs : IsPerm s) (he : s.length % 2 = 0) (k : Int) : dcnt (partsL s) k s.length = 2 * ecnt (partsL s) k s.length := by
  have e : s.length = 2 * (s.length / 2) := by omega
  rw [e]
  refine dcnt_ecnt fun i hi => ?_
  have := partsL_mate hs he (x := 2 * i) (by omega)
  rwa [xor_even] at this

/-- of one part: as many darts, however it is walked -/
theorem part_same {s : List Nat} (hs : IsPerm s) (he : s.length % 2 = 0) {V root : Nat} (hr : root < s.length) (hV : (sizesL s).length ≤ V) {j : Nat} (hj : j < partC' s root) : partC' s (wd s V root j) = partC' s root := by
  obtain ⟨hp, h0, hmin⟩ := wlen hs he hr hV
  have hc := (wall hs he hr hV h0 hp hmin (wd s V root j)).2 ⟨j, hj, rfl⟩
  unfold partC'
  refine tally_congr fun x hx => ⟨fun h => (Con.per hs).trans hc h, fun h => (Con.per hs).trans ((Con.per hs).symm hc) h⟩

set_option maxRecDepth 100000 in
set_option maxHeartbeats 16000000 in
theorem walkSides_walk (w : World) (n ro ot : Nat) (hn : n ≤ 255) (hro : ro ≤ 255) (hot : ot ≤ 255) (v : Value) (bs : List Nat) (hv : FreeB noReg w v bs) :
    Calls Try.prog 3 #[.int .u8 (n : Int), v, .int .u8 (ro : Int), .int .u8 (ot : Int)] w (RetTrue noReg w) := by
  have HA := Lib.hid (awake9_any noReg w (Inv.noReg w))
  have hnot := not_run
  have HV := Lib.hid hv
  have hS := mixL_perm (2 * (n % 14)) bs
  have hSl := mixL_length (2 * (n % 14)) bs
  have HM := Lib.hid (fun R w' (hI : Inv R w') (hv : FreeB R w' v bs) => made9_any R w' hI n hn v bs hv)
  obtain ⟨S, hSe⟩ : ∃ S, mixL (2 * (n % 14)) bs = S := ⟨_, rfl⟩
  obtain ⟨r, hre⟩ : ∃ r, anyRoot (n % 14) 0 = r := ⟨_, rfl⟩
  obtain ⟨m, hm⟩ : ∃ m, 2 * (n % 14) = m := ⟨_, rfl⟩
  have hm26 : m ≤ 26 := by omega
  have hev : m % 2 = 0 := by omega
  rw [hSe, hre] at HM
  rw [hSe, hm] at hSl
  rw [hSe] at hS
  rw [← hSl] at hev hm26
  obtain ⟨a0, c0, rfl, _⟩ := hv
  clear hSe hre hm hSl
  have HS := Lib.hid hS
  have HEv := Lib.hid hev
  clear hS
  go_enter Try.func3, Try.ntmps3
  go_wp2_with fail
  refine HA.out.mono ?_
  rintro e w1 ⟨rfl, R1, he1⟩
  have HE1 := Lib.hid he1
  clear he1
  go_wp2_with fail
  refine (HM.out R1 w1 HE1.out.inv (HV.out.ev HE1.out)).mono ?_
  rintro e w2 ⟨p, a1, c1, R2, rfl, he2, hp2, hf2⟩
  unfold refV
  have hnone : R2 w2.heap.size = none := he2.inv.none_of_ge (Nat.le_refl _)
  have hI3 := he2.inv.alloc (.cells #[.slice a1 S.length c1, .int .i64 r, .int .i64 0] 27)
  have hf3 := hf2.ev ((Ev.refl he2.inv).alloc (.cells #[.slice a1 S.length c1, .int .i64 r, .int .i64 0] 27))
  have HE2 := Lib.hid (HE1.out.trans he2)
  have HP3 := Lib.hid hp2
  have HX := Lib.hid (fun R' w' (h : Ev R2 (w2.alloc (.cells #[.slice a1 S.length c1, .int .i64 r, .int .i64 0] 27)) R' w') => h.ref3 hnone)
  have HF3 := Lib.hid hf3
  have HI3 := Lib.hid hI3
  clear he2 hp2 hf2 hI3 hnone hf3
  go_upto_region 4 with fail
  obtain ⟨w3, hw3⟩ : ∃ w3, w3 = w2.alloc (.cells #[.slice a1 S.length c1, .int .i64 r, .int .i64 0] 27) := ⟨_, rfl⟩
  have HE3 : Hid (Ev noReg w R2 w3) := by rw [hw3]; exact HE2.out.alloc _
  rw [← hw3] at HX HF3 HI3 ⊢
  clear hw3 HE2
  have HDa := Lib.hid (fun R' w' (he : Ev R2 w3 R' w') => darts_any R' w' he.inv p S r 0 (he.map HP3.out))
  by_cases h0 : S.length = 0
  · have hb : ((S.length : Int) == 0) = true := by simp [h0]
    obtain ⟨x0, x1, x2⟩ := HX.out _ _ (Ev.refl HI3.out)
    go_wp2_with fail
    refine (HDa.out _ _ (Ev.refl HI3.out)).mono ?_
    rintro e w4 ⟨rfl, rfl⟩
    go_wp2_with fail
    go_ret
    exact ⟨by simp, R2, HE3.out⟩
  · have hb : ((S.length : Int) == 0) = false := beq_eq_false_iff_ne.2 (by omega)
    obtain ⟨rt, hrt⟩ : ∃ rt, ro % S.length = rt := ⟨_, rfl⟩
    have hrl : rt < S.length := by rw [← hrt]; exact Nat.mod_lt _ (by omega)
    have hmod : (ro : Int) % (S.length : Int) = (rt : Int) := by rw [← hrt]; simp
    have hpos : (S.length : Int) ≠ 0 := by omega
    clear hrt

    have hVV : (sizesL S).length + 0 = (sizesL S).length := Nat.add_zero _
    obtain ⟨P, hPe⟩ : ∃ P, partC' S rt = P := ⟨_, rfl⟩
    have hP26 : P ≤ 26 := by have := partC_le S rt; omega
    have HPe := Lib.hid hPe
    have HWl := Lib.hid (wlen HS.out HEv.out hrl (V := (sizesL S).length) (Nat.le_refl _))
    have HWi := Lib.hid (fun j => (winv HS.out HEv.out hrl (V := (sizesL S).length) (Nat.le_refl _) j).lt j (Nat.le_refl _))
    have HNl := Lib.hid (partsL_length HS.out HEv.out)
    have hW := fun R' w' (he : Ev R2 w3 R' w') => walk_of R' w' he.inv p S r 0 (he.map HP3.out) rt hrl
    rw [hVV, hPe] at hW
    have HW := Lib.hid hW
    have HNm := Lib.hid (fun R' w' (he : Ev R2 w3 R' w') => r8names_any R' w' he.inv _ S r 0 (HF3.out.ev he) HS.out (by omega) HEv.out)
    have HRp := Lib.hid (fun R' w' (he : Ev R2 w3 R' w') => r8parts_any R' w' he.inv _ S r 0 (HF3.out.ev he) HS.out (by omega) HEv.out (by omega))
    unfold refV at HNm HRp
    simp only [show ((0 : Nat) : Int) = 0 from rfl] at HRp
    have hkk := partsL_lt HS.out HEv.out hrl
    obtain ⟨k, hk⟩ : ∃ k : Nat, nth (partsL S) rt = (k : Int) := ⟨(nth (partsL S) rt).toNat, by omega⟩
    have hkC : k < partsN S + 0 := by omega
    have hC26 := partsN_le HS.out HEv.out
    have HK := Lib.hid hk
    have HPF : Hid (partsF S k = partF S k) := Lib.hid (by unfold partsF; rw [if_pos (by omega)])
    clear hW hVV hPe hkk

    have hSt := stepL_length S (sizesL S).length rt P
    have HLw := Lib.hid (leftL_walk S (sizesL S).length rt P)
    have HTr := Lib.hid (treeL_walk S (sizesL S).length rt P)
    have HWt := Lib.hid (wtree HS.out HEv.out hrl (V := (sizesL S).length) (Nat.le_refl _))
    have HWb := Lib.hid (wbal HS.out HEv.out hrl (V := (sizesL S).length) (Nat.le_refl _))
    have HWa := Lib.hid (wcnt_all S (sizesL S).length rt P)
    have HWp := Lib.hid (wpart HS.out HEv.out hrl (V := (sizesL S).length) (Nat.le_refl _))
    have HPs := Lib.hid (fun j (hj : j < partC' S rt) => part_same HS.out HEv.out hrl (V := (sizesL S).length) (Nat.le_refl _) hj)
    have HDe := Lib.hid (dcnt_edges HS.out HEv.out (k : Int))
    have HGe := Lib.hid (genOf_euler HS.out HEv.out (k := k) (by omega))
    have HWd := Lib.hid (fun j (hj : j < partC' S rt) => wd_part HS.out HEv.out hrl (V := (sizesL S).length) (Nat.le_refl _) hj)
    have HPl := Lib.hid (fun j (hj : j < partC' S rt) => (wtree HS.out HEv.out ((winv HS.out HEv.out hrl (V := (sizesL S).length) (Nat.le_refl _) j).lt j (Nat.le_refl _)) (V := (sizesL S).length) (Nat.le_refl _)))
    have HWO := Lib.hid (fun (d : Nat) (hd : d < S.length) R' w' (he : Ev R2 w3 R' w') => walk_of R' w' he.inv p S r 0 (he.map HP3.out) d hd)
    simp only [Nat.add_zero] at HWO
    obtain ⟨V, hV⟩ : ∃ V, (sizesL S).length = V := ⟨_, rfl⟩
    rw [hV] at HW HWi HTr HLw HWt HWb HWa HPs HWd HPl HWO hSt
    obtain ⟨L, hL⟩ : ∃ L, stepL S V rt P = L := ⟨_, rfl⟩
    rw [hL] at HW HTr HLw hSt
    have HSt := Lib.hid hSt
    have HL := Lib.hid hL
    have HVv := Lib.hid hV
    clear hV hL hSt
    go_wp2_with fail
    refine (HDa.out _ _ (Ev.refl HI3.out)).mono ?_
    rintro e w4 ⟨rfl, rfl⟩
    go_wp2_with fail
    refine (HDa.out _ _ (Ev.refl HI3.out)).mono ?_
    rintro e w4 ⟨rfl, rfl⟩
    go_wp2_with fail
    refine (HW.out _ _ (Ev.refl HI3.out)).mono ?_
    rintro e wd0 ⟨Rd, a5, c5, rfl, he5, ho5⟩
    rw [HSt.out]
    have hf5 := FreeS.of_own ho5
    rw [HSt.out] at hf5
    have HEd0 := Lib.hid he5
    have HF5 := Lib.hid hf5
    clear he5 ho5 hf5
    go_upto_region 8 with fail

    obtain ⟨C, hC⟩ : ∃ C, partsN S + 0 = C := ⟨_, rfl⟩
    rw [hC] at HRp hkC
    have hCb : C ≤ 26 := by omega
    have HRG := Lib.hid (partsF_fields HS.out HEv.out (by omega) k)
    obtain ⟨pf, hpf⟩ : ∃ q, partsF S k = q := ⟨_, rfl⟩
    have HPf := Lib.hid hpf
    obtain ⟨p0, p1, p2, p3, p4⟩ := pf
    clear hpf hC
    go_cut [14] (fun s14 wx => PartVar Rd wd0 s14 wx p0 p1 p2 p3 p4)
    case first =>
      have HEd := Lib.hid ((Ev.refl HEd0.out.inv).drew)
      obtain ⟨x0, x1, x2⟩ := HX.out _ _ (HEd0.out.trans HEd.out)
      have hx0l := lt_of_cell x0
      obtain ⟨y0, y1, y2⟩ := HX.out _ _ HEd0.out
      have hy0l := lt_of_cell y0
      have HEdD := Lib.hid (fun o => ((Ev.refl HEd0.out.inv).alloc o).drew)
      go_region_with (first
        | (fail_if_success (have := HOr.out)
           go_at_call 20; (with_reducible refine (HNm.out _ _ (HEd0.out.trans HEd.out)).mono ?_); rintro e w' ⟨vN, rfl, he, hoN⟩; have HEd := Lib.hid (HEd.out.trans he); (try (have HZ := Lib.hid (zero_ev HZ.out he); obtain ⟨z0, z1, z2, z3, z4, zf⟩ := zero_cells HZ.out.1)); obtain ⟨x0, x1, x2⟩ := HX.out _ _ (HEd0.out.trans HEd.out); obtain ⟨aN, cN, rfl, _⟩ := hoN.free.open; rw [HNl.out] at hoN ⊢; have HN1 := Lib.hid hoN; obtain ⟨gN, rfl, _, _, n0, _⟩ := hoN.headAt HNl.out (i := rt) hrl; rw [HK.out] at n0; clear he hoN; have hx0l := lt_of_cell x0; have hgNN := lt_of_cell n0)
        | (go_at_call 20; (with_reducible refine (HNm.out _ _ (HEd0.out.trans HEd.out)).mono ?_); rintro e w' ⟨vN, rfl, he, hoN⟩; have HEd := Lib.hid (HEd.out.trans he); (try (have HZ := Lib.hid (zero_ev HZ.out he); obtain ⟨z0, z1, z2, z3, z4, zf⟩ := zero_cells HZ.out.1)); obtain ⟨x0, x1, x2⟩ := HX.out _ _ (HEd0.out.trans HEd.out); obtain ⟨aN, cN, rfl, _⟩ := hoN.free.open; rw [HNl.out] at hoN ⊢; have HN1 := Lib.hid hoN; obtain ⟨gN, rfl, _, _, n0, _⟩ := hoN.headAt HNl.out (i := rt) hrl; rw [HK.out] at n0; have HOr := Lib.hid ((HOr.out).ev he); clear he hoN; obtain ⟨_, e1, _, _, d0, _⟩ := HOr.out.headAt (i := k * 5 + 0) (by rw [flatF_length]; omega); cases e1; obtain ⟨_, e1, _, _, d1, _⟩ := HOr.out.headAt (i := k * 5 + 1) (by rw [flatF_length]; omega); cases e1; obtain ⟨_, e1, _, _, d2, _⟩ := HOr.out.headAt (i := k * 5 + 2) (by rw [flatF_length]; omega); cases e1; obtain ⟨_, e1, _, _, d3, _⟩ := HOr.out.headAt (i := k * 5 + 3) (by rw [flatF_length]; omega); cases e1; obtain ⟨_, e1, _, _, d4, _⟩ := HOr.out.headAt (i := k * 5 + 4) (by rw [flatF_length]; omega); cases e1; rw [flatF_get (by omega) hkC, HPf.out] at d0 d1 d2 d3 d4; have k0 : w'.cell? ⟨gr, k * 5, none⟩ = some (.int .i64 p0) := d0; have k1 : w'.cell? ⟨gr, k * 5 + 1, none⟩ = some (.int .i64 p1) := d1; have k2 : w'.cell? ⟨gr, k * 5 + 2, none⟩ = some (.int .i64 p2) := d2; have k3 : w'.cell? ⟨gr, k * 5 + 3, none⟩ = some (.int .i64 p3) := d3; have k4 : w'.cell? ⟨gr, k * 5 + 4, none⟩ = some (.int .i64 p4) := d4; clear d0 d1 d2 d3 d4; have hgrl := lt_of_cell k0; have hx0l := lt_of_cell x0; have hgNN := lt_of_cell n0)
        | (fail_if_success (have := HN1.out)
           go_at_call 19; (with_reducible refine (HRp.out _ _ (HEd0.out.trans HEd.out)).mono ?_); rintro e w' ⟨vr, rfl, he, ar, cr, rfl, hor⟩; have HEd := Lib.hid (HEd.out.trans he); (try (have HZ := Lib.hid (zero_ev HZ.out he); obtain ⟨z0, z1, z2, z3, z4, zf⟩ := zero_cells HZ.out.1)); obtain ⟨x0, x1, x2⟩ := HX.out _ _ (HEd0.out.trans HEd.out); have HOr := Lib.hid hor; clear he hor; obtain ⟨gr, rfl, _, _, d0, _⟩ := HOr.out.headAt (i := k * 5 + 0) (by rw [flatF_length]; omega); obtain ⟨_, e1, _, _, d1, _⟩ := HOr.out.headAt (i := k * 5 + 1) (by rw [flatF_length]; omega); cases e1; obtain ⟨_, e1, _, _, d2, _⟩ := HOr.out.headAt (i := k * 5 + 2) (by rw [flatF_length]; omega); cases e1; obtain ⟨_, e1, _, _, d3, _⟩ := HOr.out.headAt (i := k * 5 + 3) (by rw [flatF_length]; omega); cases e1; obtain ⟨_, e1, _, _, d4, _⟩ := HOr.out.headAt (i := k * 5 + 4) (by rw [flatF_length]; omega); cases e1; rw [flatF_get (by omega) hkC, HPf.out] at d0 d1 d2 d3 d4; have k0 : w'.cell? ⟨gr, k * 5, none⟩ = some (.int .i64 p0) := d0; have k1 : w'.cell? ⟨gr, k * 5 + 1, none⟩ = some (.int .i64 p1) := d1; have k2 : w'.cell? ⟨gr, k * 5 + 2, none⟩ = some (.int .i64 p2) := d2; have k3 : w'.cell? ⟨gr, k * 5 + 3, none⟩ = some (.int .i64 p3) := d3; have k4 : w'.cell? ⟨gr, k * 5 + 4, none⟩ = some (.int .i64 p4) := d4; clear d0 d1 d2 d3 d4; have hgrl := lt_of_cell k0; have hx0l := lt_of_cell x0)
        | (go_at_call 19; (with_reducible refine (HRp.out _ _ (HEd0.out.trans HEd.out)).mono ?_); rintro e w' ⟨vr, rfl, he, ar, cr, rfl, hor⟩; have HEd := Lib.hid (HEd.out.trans he); (try (have HZ := Lib.hid (zero_ev HZ.out he); obtain ⟨z0, z1, z2, z3, z4, zf⟩ := zero_cells HZ.out.1)); obtain ⟨x0, x1, x2⟩ := HX.out _ _ (HEd0.out.trans HEd.out); have HOr := Lib.hid hor; have HN1 := Lib.hid ((HN1.out).ev he); obtain ⟨_, e1, _, _, n0, _⟩ := HN1.out.headAt HNl.out (i := rt) hrl; cases e1; rw [HK.out] at n0; clear he hor; obtain ⟨gr, rfl, _, _, d0, _⟩ := HOr.out.headAt (i := k * 5 + 0) (by rw [flatF_length]; omega); obtain ⟨_, e1, _, _, d1, _⟩ := HOr.out.headAt (i := k * 5 + 1) (by rw [flatF_length]; omega); cases e1; obtain ⟨_, e1, _, _, d2, _⟩ := HOr.out.headAt (i := k * 5 + 2) (by rw [flatF_length]; omega); cases e1; obtain ⟨_, e1, _, _, d3, _⟩ := HOr.out.headAt (i := k * 5 + 3) (by rw [flatF_length]; omega); cases e1; obtain ⟨_, e1, _, _, d4, _⟩ := HOr.out.headAt (i := k * 5 + 4) (by rw [flatF_length]; omega); cases e1; rw [flatF_get (by omega) hkC, HPf.out] at d0 d1 d2 d3 d4; have k0 : w'.cell? ⟨gr, k * 5, none⟩ = some (.int .i64 p0) := d0; have k1 : w'.cell? ⟨gr, k * 5 + 1, none⟩ = some (.int .i64 p1) := d1; have k2 : w'.cell? ⟨gr, k * 5 + 2, none⟩ = some (.int .i64 p2) := d2; have k3 : w'.cell? ⟨gr, k * 5 + 3, none⟩ = some (.int .i64 p3) := d3; have k4 : w'.cell? ⟨gr, k * 5 + 4, none⟩ = some (.int .i64 p4) := d4; clear d0 d1 d2 d3 d4; have hgrl := lt_of_cell k0; have hx0l := lt_of_cell x0; have hgNN := lt_of_cell n0)
        | (fail_if_success (have := HOr.out)
           go_at_call 20; (with_reducible refine (HNm.out _ _ (HEd0.out.trans (HEd.out.alloc _))).mono ?_); rintro e w' ⟨vN, rfl, he, hoN⟩; have hneA := Nat.ne_of_gt (lt_of_cell x0); have HZ := Lib.hid (zero_evA HEd.out he); obtain ⟨z0, z1, z2, z3, z4, zf⟩ := zero_cells HZ.out.1; have HEd := Lib.hid ((HEd.out.alloc _).trans he); obtain ⟨x0, x1, x2⟩ := HX.out _ _ (HEd0.out.trans HEd.out); obtain ⟨aN, cN, rfl, _⟩ := hoN.free.open; rw [HNl.out] at hoN ⊢; have HN1 := Lib.hid hoN; obtain ⟨gN, rfl, _, _, n0, _⟩ := hoN.headAt HNl.out (i := rt) hrl; rw [HK.out] at n0; clear he hoN; have hx0l := lt_of_cell x0; have hgNN := lt_of_cell n0)
        | (go_at_call 20; (with_reducible refine (HNm.out _ _ (HEd0.out.trans (HEd.out.alloc _))).mono ?_); rintro e w' ⟨vN, rfl, he, hoN⟩; have hneA := Nat.ne_of_gt (lt_of_cell x0); have HZ := Lib.hid (zero_evA HEd.out he); obtain ⟨z0, z1, z2, z3, z4, zf⟩ := zero_cells HZ.out.1; have HEd := Lib.hid ((HEd.out.alloc _).trans he); obtain ⟨x0, x1, x2⟩ := HX.out _ _ (HEd0.out.trans HEd.out); obtain ⟨aN, cN, rfl, _⟩ := hoN.free.open; rw [HNl.out] at hoN ⊢; have HN1 := Lib.hid hoN; obtain ⟨gN, rfl, _, _, n0, _⟩ := hoN.headAt HNl.out (i := rt) hrl; rw [HK.out] at n0; have HOr := Lib.hid ((HOr.out.alloc _).ev he); clear he hoN; obtain ⟨_, e1, _, _, d0, _⟩ := HOr.out.headAt (i := k * 5 + 0) (by rw [flatF_length]; omega); cases e1; obtain ⟨_, e1, _, _, d1, _⟩ := HOr.out.headAt (i := k * 5 + 1) (by rw [flatF_length]; omega); cases e1; obtain ⟨_, e1, _, _, d2, _⟩ := HOr.out.headAt (i := k * 5 + 2) (by rw [flatF_length]; omega); cases e1; obtain ⟨_, e1, _, _, d3, _⟩ := HOr.out.headAt (i := k * 5 + 3) (by rw [flatF_length]; omega); cases e1; obtain ⟨_, e1, _, _, d4, _⟩ := HOr.out.headAt (i := k * 5 + 4) (by rw [flatF_length]; omega); cases e1; rw [flatF_get (by omega) hkC, HPf.out] at d0 d1 d2 d3 d4; have k0 : w'.cell? ⟨gr, k * 5, none⟩ = some (.int .i64 p0) := d0; have k1 : w'.cell? ⟨gr, k * 5 + 1, none⟩ = some (.int .i64 p1) := d1; have k2 : w'.cell? ⟨gr, k * 5 + 2, none⟩ = some (.int .i64 p2) := d2; have k3 : w'.cell? ⟨gr, k * 5 + 3, none⟩ = some (.int .i64 p3) := d3; have k4 : w'.cell? ⟨gr, k * 5 + 4, none⟩ = some (.int .i64 p4) := d4; clear d0 d1 d2 d3 d4; have hgrl := lt_of_cell k0; have hx0l := lt_of_cell x0; have hgNN := lt_of_cell n0)
        | (fail_if_success (have := HN1.out)
           go_at_call 19; (with_reducible refine (HRp.out _ _ (HEd0.out.trans (HEd.out.alloc _))).mono ?_); rintro e w' ⟨vr, rfl, he, ar, cr, rfl, hor⟩; have hneA := Nat.ne_of_gt (lt_of_cell x0); have HZ := Lib.hid (zero_evA HEd.out he); obtain ⟨z0, z1, z2, z3, z4, zf⟩ := zero_cells HZ.out.1; have HEd := Lib.hid ((HEd.out.alloc _).trans he); obtain ⟨x0, x1, x2⟩ := HX.out _ _ (HEd0.out.trans HEd.out); have HOr := Lib.hid hor; clear he hor; obtain ⟨gr, rfl, _, _, d0, _⟩ := HOr.out.headAt (i := k * 5 + 0) (by rw [flatF_length]; omega); obtain ⟨_, e1, _, _, d1, _⟩ := HOr.out.headAt (i := k * 5 + 1) (by rw [flatF_length]; omega); cases e1; obtain ⟨_, e1, _, _, d2, _⟩ := HOr.out.headAt (i := k * 5 + 2) (by rw [flatF_length]; omega); cases e1; obtain ⟨_, e1, _, _, d3, _⟩ := HOr.out.headAt (i := k * 5 + 3) (by rw [flatF_length]; omega); cases e1; obtain ⟨_, e1, _, _, d4, _⟩ := HOr.out.headAt (i := k * 5 + 4) (by rw [flatF_length]; omega); cases e1; rw [flatF_get (by omega) hkC, HPf.out] at d0 d1 d2 d3 d4; have k0 : w'.cell? ⟨gr, k * 5, none⟩ = some (.int .i64 p0) := d0; have k1 : w'.cell? ⟨gr, k * 5 + 1, none⟩ = some (.int .i64 p1) := d1; have k2 : w'.cell? ⟨gr, k * 5 + 2, none⟩ = some (.int .i64 p2) := d2; have k3 : w'.cell? ⟨gr, k * 5 + 3, none⟩ = some (.int .i64 p3) := d3; have k4 : w'.cell? ⟨gr, k * 5 + 4, none⟩ = some (.int .i64 p4) := d4; clear d0 d1 d2 d3 d4; have hgrl := lt_of_cell k0; have hx0l := lt_of_cell x0)
        | (go_at_call 19; (with_reducible refine (HRp.out _ _ (HEd0.out.trans (HEd.out.alloc _))).mono ?_); rintro e w' ⟨vr, rfl, he, ar, cr, rfl, hor⟩; have hneA := Nat.ne_of_gt (lt_of_cell x0); have HZ := Lib.hid (zero_evA HEd.out he); obtain ⟨z0, z1, z2, z3, z4, zf⟩ := zero_cells HZ.out.1; have HEd := Lib.hid ((HEd.out.alloc _).trans he); obtain ⟨x0, x1, x2⟩ := HX.out _ _ (HEd0.out.trans HEd.out); have HOr := Lib.hid hor; have HN1 := Lib.hid ((HN1.out.alloc _).ev he); obtain ⟨_, e1, _, _, n0, _⟩ := HN1.out.headAt HNl.out (i := rt) hrl; cases e1; rw [HK.out] at n0; clear he hor; obtain ⟨gr, rfl, _, _, d0, _⟩ := HOr.out.headAt (i := k * 5 + 0) (by rw [flatF_length]; omega); obtain ⟨_, e1, _, _, d1, _⟩ := HOr.out.headAt (i := k * 5 + 1) (by rw [flatF_length]; omega); cases e1; obtain ⟨_, e1, _, _, d2, _⟩ := HOr.out.headAt (i := k * 5 + 2) (by rw [flatF_length]; omega); cases e1; obtain ⟨_, e1, _, _, d3, _⟩ := HOr.out.headAt (i := k * 5 + 3) (by rw [flatF_length]; omega); cases e1; obtain ⟨_, e1, _, _, d4, _⟩ := HOr.out.headAt (i := k * 5 + 4) (by rw [flatF_length]; omega); cases e1; rw [flatF_get (by omega) hkC, HPf.out] at d0 d1 d2 d3 d4; have k0 : w'.cell? ⟨gr, k * 5, none⟩ = some (.int .i64 p0) := d0; have k1 : w'.cell? ⟨gr, k * 5 + 1, none⟩ = some (.int .i64 p1) := d1; have k2 : w'.cell? ⟨gr, k * 5 + 2, none⟩ = some (.int .i64 p2) := d2; have k3 : w'.cell? ⟨gr, k * 5 + 3, none⟩ = some (.int .i64 p3) := d3; have k4 : w'.cell? ⟨gr, k * 5 + 4, none⟩ = some (.int .i64 p4) := d4; clear d0 d1 d2 d3 d4; have hgrl := lt_of_cell k0; have hx0l := lt_of_cell x0; have hgNN := lt_of_cell n0)
        | (fail_if_success (have := HOr.out)
           go_at_call 20; (with_reducible refine (HNm.out _ _ (HEd0.out.trans (HEdD.out _))).mono ?_); rintro e w' ⟨vN, rfl, he, hoN⟩; have hneA := Nat.ne_of_gt hy0l; have HZ := Lib.hid (zero_evD HEd0.out.inv he); obtain ⟨z0, z1, z2, z3, z4, zf⟩ := zero_cells HZ.out.1; have HEd := Lib.hid ((HEdD.out _).trans he); obtain ⟨x0, x1, x2⟩ := HX.out _ _ (HEd0.out.trans HEd.out); obtain ⟨aN, cN, rfl, _⟩ := hoN.free.open; rw [HNl.out] at hoN ⊢; have HN1 := Lib.hid hoN; obtain ⟨gN, rfl, _, _, n0, _⟩ := hoN.headAt HNl.out (i := rt) hrl; rw [HK.out] at n0; clear he hoN; have hx0l := lt_of_cell x0; have hgNN := lt_of_cell n0)
        | (fail_if_success (have := HN1.out)
           go_at_call 19; (with_reducible refine (HRp.out _ _ (HEd0.out.trans (HEdD.out _))).mono ?_); rintro e w' ⟨vr, rfl, he, ar, cr, rfl, hor⟩; have hneA := Nat.ne_of_gt hy0l; have HZ := Lib.hid (zero_evD HEd0.out.inv he); obtain ⟨z0, z1, z2, z3, z4, zf⟩ := zero_cells HZ.out.1; have HEd := Lib.hid ((HEdD.out _).trans he); obtain ⟨x0, x1, x2⟩ := HX.out _ _ (HEd0.out.trans HEd.out); have HOr := Lib.hid hor; clear he hor; obtain ⟨gr, rfl, _, _, d0, _⟩ := HOr.out.headAt (i := k * 5 + 0) (by rw [flatF_length]; omega); obtain ⟨_, e1, _, _, d1, _⟩ := HOr.out.headAt (i := k * 5 + 1) (by rw [flatF_length]; omega); cases e1; obtain ⟨_, e1, _, _, d2, _⟩ := HOr.out.headAt (i := k * 5 + 2) (by rw [flatF_length]; omega); cases e1; obtain ⟨_, e1, _, _, d3, _⟩ := HOr.out.headAt (i := k * 5 + 3) (by rw [flatF_length]; omega); cases e1; obtain ⟨_, e1, _, _, d4, _⟩ := HOr.out.headAt (i := k * 5 + 4) (by rw [flatF_length]; omega); cases e1; rw [flatF_get (by omega) hkC, HPf.out] at d0 d1 d2 d3 d4; have k0 : w'.cell? ⟨gr, k * 5, none⟩ = some (.int .i64 p0) := d0; have k1 : w'.cell? ⟨gr, k * 5 + 1, none⟩ = some (.int .i64 p1) := d1; have k2 : w'.cell? ⟨gr, k * 5 + 2, none⟩ = some (.int .i64 p2) := d2; have k3 : w'.cell? ⟨gr, k * 5 + 3, none⟩ = some (.int .i64 p3) := d3; have k4 : w'.cell? ⟨gr, k * 5 + 4, none⟩ = some (.int .i64 p4) := d4; clear d0 d1 d2 d3 d4; have hgrl := lt_of_cell k0; have hx0l := lt_of_cell x0))
      all_goals (go_wp2_with fail; go_meet)
      all_goals first | (with_reducible exact PartVar.new HEd.out) | exact PartVar.old HEd.out HZ.out
    case rest =>
      obtain ⟨g, Rx, rfl, he, hgn, g0, g1, g2, g3, g4⟩ := hcut
      obtain ⟨wx, hwx⟩ : ∃ wx, wx = wc := ⟨_, rfl⟩
      subst hwx
      have hpf : partF S k = ⟨p0, p1, p2, p3, p4⟩ := by rw [← HPF.out, HPf.out]
      have hp1 : ((vcnt S (partsL S) (k : Int) S.length : Nat) : Int) = p1 := congrArg PartR.v hpf
      have hp2 : ((ecnt (partsL S) (k : Int) S.length : Nat) : Int) = p2 := congrArg PartR.e hpf
      have hp3 : ((vcnt (phiL S) (partsL S) (k : Int) S.length : Nat) : Int) = p3 := congrArg PartR.b hpf
      have hp4 : genOf S (partsL S) k = p4 := congrArg PartR.g hpf
      have n1 := HWt.out
      have n2 := HWb.out
      have n3 := HWp.out
      have n4 := HDe.out
      have n5 := HGe.out
      have n6 := HWa.out
      rw [HPe.out, HK.out] at n1
      rw [HPe.out] at n2
      rw [HK.out, HPe.out] at n3
      rw [hp1, hp2, hp3, hp4] at n5
      obtain ⟨lf, hlf⟩ : ∃ l, wcnt S V rt 2 P = l := ⟨_, rfl⟩
      have hq1 : (lf : Int) = p2 - p1 + 1 := by omega
      have hq2 : (P : Int) = 2 * p2 := by omega
      have hq3 : p4 = 0 → (lf : Int) = p3 - 1 := by omega
      have hb2 : 0 ≤ p2 ∧ p2 ≤ 26 := by omega
      have hb1 : 0 ≤ p1 ∧ p1 ≤ 26 := by omega
      have hlb : lf ≤ 26 := by omega
      have hb3 : 0 ≤ p3 ∧ p3 ≤ 200000 := by
        have := HRG.out.2.2.1
        rw [HPf.out] at this
        simp only at this; omega
      rw [hlf] at HLw
      have HEx := Lib.hid (HEd0.out.trans he)
      have HF6 := Lib.hid (HF5.out.ev he)
      have HG : Hid (∀ R' w', Ev Rx wx R' w' → w'.cell? ⟨g, 1, none⟩ = some (.int .i64 p1) ∧ w'.cell? ⟨g, 2, none⟩ = some (.int .i64 p2) ∧ w'.cell? ⟨g, 3, none⟩ = some (.int .i64 p3) ∧ w'.cell? ⟨g, 4, none⟩ = some (.int .i64 p4)) := Lib.hid fun R' w' h =>
        ⟨(h.cell (lt_of_cell g1) hgn).trans g1, (h.cell (lt_of_cell g2) hgn).trans g2, (h.cell (lt_of_cell g3) hgn).trans g3, (h.cell (lt_of_cell g4) hgn).trans g4⟩
      have HQ1 := Lib.hid hq1
      have HQ2 := Lib.hid hq2
      have HQ3 := Lib.hid hq3
      clear hq1 hq2 hq3
      clear g0 g1 g2 g3 g4 he hgn hpf hp1 hp2 hp3 hp4 n1 n2 n3 n4 n5 n6 hlf
      go_wp2_with fail
      go_loopg [15, 58] P (fun gg v15 v58 wr => ∃ i : Nat, i ≤ P ∧ P - i ≤ gg ∧ v15 = .int .i64 ((leftL (L.take i) : Nat) : Int) ∧ v58 = .int .i64 (i : Int) ∧ Ev Rx wx Rx wr)
      case atStart => exact ⟨0, by omega, by omega, rfl, rfl, Ev.refl HEx.out.inv⟩
      case round =>
        obtain ⟨i, hi, hg, rfl, rfl, hev⟩ := hrel
        have HE := Lib.hid hev
        clear hev
        by_cases hil : i < P
        · obtain ⟨gs, os, rfl, hgn, k0, k1⟩ := (HF6.out.ev HE.out).at hil
          have hsucc := leftL_succ (xs := L) (i := i) (by have := HSt.out; omega)
          have hle := leftL_le L i (by have := HSt.out; omega)
          obtain ⟨xx, hxx⟩ : ∃ x, nthS L i = x := ⟨_, rfl⟩
          rw [hxx] at k0 k1 hsucc
          obtain ⟨d, kd⟩ := xx
          simp only at k0 k1 hsucc
          obtain ⟨c, hc⟩ : ∃ c, leftL (L.take i) = c := ⟨_, rfl⟩
          rw [hc] at hsucc hle ⊢
          have HSu := Lib.hid hsucc
          clear hsucc hxx hc
          have HE2 := Lib.hid (HE.out.alloc (.cells #[.int .i64 d, .int .i64 kd] 41))
          by_cases hkd : kd = 2
          · subst hkd
            go_wp2_with fail
            go_roundg (P - (i + 1))
            case measure => omega
            case rel => exact ⟨i + 1, by omega, by omega, by rw [HSu.out]; simp, by go_num, HE2.out⟩
          · have hkb : (kd == (2 : Int)) = false := by simp [hkd]
            go_wp2_with fail
            go_roundg (P - (i + 1))
            case measure => omega
            case rel => exact ⟨i + 1, by omega, by omega, by rw [HSu.out, if_neg hkd], by go_num, HE2.out⟩
        · obtain rfl : i = P := by omega
          have e : L.take i = L := by rw [← HSt.out]; exact List.take_length
          rw [e, HLw.out]
          obtain ⟨y1, y2, y3, y4⟩ := HG.out _ _ HE.out
          have b1 : ((lf : Int) != p2 - p1 + 1) = false := by rw [HQ1.out]; simp
          have b2 : ((i : Int) != 2 * p2) = false := by rw [HQ2.out]; simp
          have hi0 : 0 < i := by have := HWl.out.2.1; rw [HPe.out] at this; exact this
          obtain ⟨j, hj⟩ : ∃ j, ot % i = j := ⟨_, rfl⟩
          have hjl : j < i := by rw [← hj]; exact Nat.mod_lt _ hi0
          have hmj : (ot : Int) % (i : Int) = (j : Int) := by rw [← hj]; simp
          have hip : (i : Int) ≠ 0 := by omega
          have hLj : nthS L j = ((wd S V rt j : Int), (wk S V rt j : Int)) := by rw [← HL.out]; exact nthS_stepL hjl
          have hdl := HWi.out j
          have hpp := HPs.out j (by rw [HPe.out]; exact hjl)
          have hwd := HWd.out j (by rw [HPe.out]; exact hjl)
          have hpl := HPl.out j (by rw [HPe.out]; exact hjl)
          rw [HPe.out] at hpp
          rw [hpp, hwd, HK.out] at hpl
          have htt : wcnt S V rt 0 i + 1 = vcnt S (partsL S) (k : Int) S.length := by
            have := HWt.out
            rwa [HPe.out, HK.out] at this
          obtain ⟨d, hd⟩ : ∃ d, wd S V rt j = d := ⟨_, rfl⟩
          rw [hd] at hLj hdl hpp hpl
          have HWD := Lib.hid (HWO.out d hdl)
          have hll := stepL_length S V d (partC' S d)
          rw [hpp] at hll HWD
          obtain ⟨t, ht⟩ : ∃ t, wcnt S V rt 0 i = t := ⟨_, rfl⟩
          have htb : t ≤ 26 := by have := wcnt_le S V rt 0 i; omega
          have HTL : Hid ((treeL L).length = t) := Lib.hid (by rw [HTr.out, ht])
          have HTl : Hid ((treeL (stepL S V d i)).length = t) := Lib.hid (by rw [treeL_walk]; omega)
          obtain ⟨L2, hL2⟩ : ∃ L2, stepL S V d i = L2 := ⟨_, rfl⟩
          rw [hL2] at HWD hll HTl
          have HLl := Lib.hid hll
          clear hj hd hL2 hll hpp hwd hpl htt ht
          by_cases hg : p4 = 0
          · have b3 : (p4 == (0 : Int)) = true := by simp [hg]
            have b4 : ((lf : Int) != p3 - 1) = false := by rw [HQ3.out hg]; simp
            go_upto_region 18 with fail
            obtain ⟨gs, os, rfl, hgn, k0, k1⟩ := (HF6.out.ev HE.out).at hjl
            rw [hLj] at k0
            simp only at k0
            go_wp2_with fail
            refine (HWD.out _ _ (HEx.out.trans HE.out)).mono ?_
            rintro e w7 ⟨R7, a7, c7, rfl, he7, ho7⟩
            have hf7 := FreeS.of_own ho7
            rw [HLl.out] at hf7 ⊢
            have HE7 := Lib.hid (HE.out.trans he7)
            have HF7 := Lib.hid hf7
            have HTk := Lib.hid (tree_any R7 w7 he7.inv a7 i c7 _ hf7 (by omega))
            have b5 : ((i : Int) == (i : Int)) = true := by simp
            clear he7 ho7 hf7 k0 k1
            go_wp2_with fail
            refine HTk.out.mono ?_
            rintro e w8 ⟨v8, rfl, he8, ho8⟩
            obtain ⟨a8, c8, rfl, _⟩ := ho8.ints.open
            rw [HTl.out]
            have HE8 := Lib.hid (HE7.out.trans he8)
            have HTl8 := Lib.hid (tree_any R7 w8 he8.inv _ i c5 _ (HF6.out.ev HE8.out) (by omega))
            clear he8 ho8
            go_wp2_with fail
            refine HTl8.out.mono ?_
            rintro e w9 ⟨v9, rfl, he9, ho9⟩
            obtain ⟨a9, c9, rfl, _⟩ := ho9.ints.open
            rw [HTL.out]
            have HE9 := Lib.hid (HE8.out.trans he9)
            have b6 : ((t : Int) == (t : Int)) = true := by simp
            clear he9 ho9
            go_wp2_with fail
            go_ret
            exact ⟨by simp, R7, HE3.out.trans (HEx.out.trans HE9.out)⟩
          · have b3 : (p4 == (0 : Int)) = false := by simp [hg]
            go_upto_region 18 with fail
            obtain ⟨gs, os, rfl, hgn, k0, k1⟩ := (HF6.out.ev HE.out).at hjl
            rw [hLj] at k0
            simp only at k0
            go_wp2_with fail
            refine (HWD.out _ _ (HEx.out.trans HE.out)).mono ?_
            rintro e w7 ⟨R7, a7, c7, rfl, he7, ho7⟩
            have hf7 := FreeS.of_own ho7
            rw [HLl.out] at hf7 ⊢
            have HE7 := Lib.hid (HE.out.trans he7)
            have HF7 := Lib.hid hf7
            have HTk := Lib.hid (tree_any R7 w7 he7.inv a7 i c7 _ hf7 (by omega))
            have b5 : ((i : Int) == (i : Int)) = true := by simp
            clear he7 ho7 hf7 k0 k1
            go_wp2_with fail
            refine HTk.out.mono ?_
            rintro e w8 ⟨v8, rfl, he8, ho8⟩
            obtain ⟨a8, c8, rfl, _⟩ := ho8.ints.open
            rw [HTl.out]
            have HE8 := Lib.hid (HE7.out.trans he8)
            have HTl8 := Lib.hid (tree_any R7 w8 he8.inv _ i c5 _ (HF6.out.ev HE8.out) (by omega))
            clear he8 ho8
            go_wp2_with fail
            refine HTl8.out.mono ?_
            rintro e w9 ⟨v9, rfl, he9, ho9⟩
            obtain ⟨a9, c9, rfl, _⟩ := ho9.ints.open
            rw [HTL.out]
            have HE9 := Lib.hid (HE8.out.trans he9)
            have b6 : ((t : Int) == (t : Int)) = true := by simp
            clear he9 ho9
            go_wp2_with fail
            go_ret
            exact ⟨by simp, R7, HE3.out.trans (HEx.out.trans HE9.out)⟩


end Go.Proofs.Ytnbecpeiodcohaa
