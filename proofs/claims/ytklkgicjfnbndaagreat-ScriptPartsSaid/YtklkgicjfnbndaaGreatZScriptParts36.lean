/- canon.Canon. Conditions: the map is registered, or nil. canon.Canon, Iso, Is, Shape, of maps and of nil. Conditions: the maps are registered, or nil. parquetryref11.Names: the document's canonical names. Conditions: the map's list lies in memory. -/
import Derived.Test.YtklkgicjfnbndaaGreatZScriptParts34
import Derived.Test.YtklkgicjfnbndaaGreatZScriptParts35
import Derived.StillTailTactics
import Derived.OwnWalk
import Derived.Test.YtklkgicjfnbndaaGreatZScriptParts13
import Derived.Test.YtklkgicjfnbndaaGreatZScriptParts23
import Derived.Test.YtklkgicjfnbndaaGreatZScriptParts33
namespace Go.Proofs.YtklkgicjfnbndaaGreat
open Go.RowKit
set_option linter.unusedVariables false

theorem FOk.len_le {n : Nat} {F : List Nat} (h : FOk n F) (he : n % 2 = 0) : 2 * F.length ≤ n := by
  have hnd : (F.map (fun x => x / 2)).Nodup := by
    rw [List.nodup_iff_pairwise_ne, List.pairwise_iff_getElem]
    intro i j hi hj hij e
    simp only [List.getElem_map] at e
    rw [List.length_map] at hi hj
    have := h.one i j hi hj (by rw [at'_eq hi, at'_eq hj]; exact e)
    omega
  have h1 : (F.map (fun x => x / 2)).length ≤ (List.range (n / 2)).length := hnd.length_le_of_subset fun x hx => by
    obtain ⟨y, hy, rfl⟩ := List.mem_map.1 hx
    obtain ⟨i, hi, rfl⟩ := List.getElem_of_mem hy
    have := h.lt i hi
    rw [at'_eq hi] at this
    exact List.mem_range.2 (by omega)
  simp at h1
  omega
/-- a map by its canonical names, and these -/
def RetCan (R : Reg) (w : World) (s : List Nat) (root lone : Nat) (e : Ending) (w' : World) : Prop :=
  ∃ q pm R', e = .returned (.tuple #[q, pm, .int .i64 0]) ∧ Ev R w R' w' ∧ MapAt R' q (relL s (canL s root)) 0 lone ∧ PermAt R' pm (canL s root)

theorem nmI_cases (F : List Nat) (d : Nat) : (hasE F d = true ∧ ∃ x : Nat, nmI F d = (x : Int)) ∨ (hasE F d = false ∧ nmI F d = -1) := by
  unfold nmI
  by_cases h : hasE F d = true
  · exact Or.inl ⟨h, _, by rw [if_pos h]⟩
  · exact Or.inr ⟨by simpa using h, by rw [if_neg h]⟩
theorem fst_take {F ds : List Nat} {j : Nat} (hj : j < ds.length) : fstL F (ds.take (j + 1)) = fstAdd (fstL F (ds.take j)) (at' ds j) := by
  unfold fstL
  rw [foldl_take_succ _ _ _ _ hj, at'_eq hj]
theorem fst_flat {s : List Nat} {rs : List Nat} {k : Nat} (hk : k < rs.length) : fstL [] ((rs.take (k + 1)).flatMap (walkD s)) = fstL (fstL [] ((rs.take k).flatMap (walkD s))) (walkD s (at' rs k)) := by
  rw [List.take_succ_eq_append_getElem hk, List.flatMap_append, at'_eq hk]
  unfold fstL
  rw [List.foldl_append]
  simp
theorem walkD_length (s : List Nat) (r : Nat) : (walkD s r).length = partC' s r := by simp [walkD]
theorem walkD_at {s : List Nat} {r j : Nat} (hj : j < partC' s r) : at' (walkD s r) j = wd s (sizesL s).length r j := by simp [walkD, at', hj]

set_option maxRecDepth 100000 in
set_option maxHeartbeats 4000000 in
theorem canon_some (R : Reg) (w : World) (hI : Inv R w) (p : Value) (s : List Nat) (root lone : Nat) (hp : MapAt R p s (root : Int) lone) (hr : root < s.length) :
    Calls Tryz.prog 113 #[p] w (RetCan R w s root lone) := by
  obtain ⟨hs, hok⟩ := hp.ok hI
  have he2 : s.length % 2 = 0 := hok.1
  have hn : s.length ≤ 131073 := hok.2.1
  have hlone : lone ≤ 65536 := by have := hok.2.2; omega
  have HD := Lib.hid (fun R' w' (he : Ev R w R' w') => darts_any R' w' he.inv p s root lone (he.map hp))
  have HRs := Lib.hid (fun R' w' (he : Ev R w R' w') => roots_some R' w' he.inv p s root lone (he.map hp) hr)
  have HWk := Lib.hid (fun R' w' (he : Ev R w R' w') r (hr : r < s.length) => walk_of R' w' he.inv p s root lone (he.map hp) r hr)
  have HMt := Lib.hid (fun R' w' (he : Ev R w R' w') d (hd : d < s.length) => (by
    have := mate_any R' w' he.inv p s root lone (he.map hp) (d : Int)
    rw [mateI_in hd] at this
    exact this : Calls Tryz.prog 49 #[p, .int .i64 (d : Int)] w' _))
  have hcp := canL_perm hs he2 hr
  have hcm := canL_mates hs he2 hr
  have hcl : (canL s root).length = s.length := canP_length _ _
  have HRl := Lib.hid (fun R' w' (he : Ev R w R' w') q (hq : PermAt R' q (canL s root)) => (by
    have h := relabel_yes R' w' he.inv p q s (canL s root) root lone (he.map hp) hq hcp hcl hcm
    have e : atI (canL s root) (root : Int) = 0 := by rw [atI_in (by rw [hcl]; exact hr), canL_root hs he2 hr]; rfl
    rw [e] at h
    exact h : Calls Tryz.prog 139 #[p, q] w' (NewYes R' w' (relL s (canL s root)) 0 lone)))
  have HIx := Lib.hid (fun r (hr : r < s.length) j => wd_V hs he2 (V := (sizesL s).length + lone) (by omega) hr j)
  have HLt := Lib.hid (rootsL_lt hr)
  have HWl := Lib.hid (fun r (hr : r < s.length) x (hx : x ∈ walkD s r) => (Con.per hs).cod ((mem_walkD hs he2 hr).1 hx))
  have hnl := canF_length (canF_ok hs he2 hr) he2 (canF_all hs he2 hr)
  have HNl := Lib.hid hnl
  have HFin := Lib.hid (show namesF s.length (fstL [] ((rootsL s root).flatMap (walkD s))) = toI (canL s root) by
    have e : canF s root = fstL [] ((rootsL s root).flatMap (walkD s)) := by
      unfold canF canD
      rw [if_neg (by omega)]
    rw [← e]
    exact namesF_all (canF_all hs he2 hr))
  have HFe := Lib.hid (show 2 * (fstL [] ((rootsL s root).flatMap (walkD s))).length = s.length by
    have e : canF s root = fstL [] ((rootsL s root).flatMap (walkD s)) := by
      unfold canF canD
      rw [if_neg (by omega)]
    rw [← e]
    exact hnl)
  have HRd := Lib.hid (show (rootsL s root).length ≤ s.length + 1 by
    unfold rootsL restTo
    rw [List.length_cons]
    have := List.length_filter_le (firstB (partsL s) root) (List.range s.length)
    rw [List.length_range] at this
    omega)
  obtain ⟨T, hT⟩ : ∃ T, canL s root = T := ⟨_, rfl⟩
  have hgoal : RetCan R w s root lone = fun e w' => ∃ q pm R', e = .returned (.tuple #[q, pm, .int .i64 0]) ∧ Ev R w R' w' ∧ MapAt R' q (relL s T) 0 lone ∧ PermAt R' pm T := by rw [← hT]; rfl
  rw [hgoal]
  rw [hT] at HRl HFin hcp hcl
  have HCp := Lib.hid hcp
  have HEv := Lib.hid he2
  obtain ⟨rs, hrs⟩ : ∃ rs, rootsL s root = rs := ⟨_, rfl⟩
  rw [hrs] at HRs HLt HFin HFe HRd
  obtain ⟨LR, hLR⟩ : ∃ L, rs.length = L := ⟨_, rfl⟩
  obtain ⟨n, hln⟩ : ∃ n, s.length = n := ⟨_, rfl⟩
  rw [hln] at HD HLt HWl HFe HFin HMt HWk HIx HRd hn hr HEv
  have HLR := Lib.hid hLR
  have HLn := Lib.hid hln
  have HTl := Lib.hid (show T.length = n by rw [hcl, hln])
  have hLRb : LR ≤ n + 1 := by rw [← hLR]; exact HRd.out
  obtain ⟨b, rfl, hb⟩ := hp
  have HI := Lib.hid hI
  have hrep := Lib.hid (fun R' w' (hI : Inv R' w') v (hv : Ints w' v [(-1 : Int)]) => repeat_one R' w' hI v (-1) hv n (by omega))
  have HE1 := Lib.hid ((Ev.refl hI).alloc (.cells #[.int .i64 (-1)] 3))
  have HO1 := Lib.hid (OwnI.lit (B := w.heap.size) hI (Nat.le_refl _) (-1))
  clear hI hb hs hok hcp hcm hcl hnl hT hgoal hrs hLR hln he2 hlone
  go_enter Tryz.func113, Tryz.ntmps113
  go_wp2_with fail
  refine (HD.out _ _ HE1.out).mono ?_
  rintro e w' ⟨rfl, rfl⟩
  go_wp2_with fail
  refine (hrep.out _ _ HE1.out.inv _ HO1.out.ints).mono ?_
  rintro e w2 ⟨v2, rfl, he2, ho2⟩
  obtain ⟨a2, cT, rfl, _⟩ := ho2.ints.open
  rw [List.length_replicate] at ho2 ⊢
  obtain ⟨gT, rfl, _, _, _, _⟩ := ho2.headAt (by rw [List.length_replicate]) (i := root) hr
  rw [← namesF_nil] at ho2
  have HE2 := Lib.hid (HE1.out.trans he2)
  have HO2 := Lib.hid (ho2.mono (B' := w.heap.size) HE1.out.size)
  clear he2 ho2 HO1
  go_wp2_with fail
  refine (HRs.out _ _ HE2.out).mono ?_
  rintro e w3 ⟨v3, R3, rfl, he3, ho3⟩
  obtain ⟨aR, cR, rfl, _⟩ := ho3.ints.open
  rw [toI_length, HLR.out] at ho3 ⊢
  have HE3 := Lib.hid (HE2.out.trans he3)
  have HO3 := Lib.hid (HO2.out.ev he3)
  have HR3 := Lib.hid ho3
  have hgB : gT < w2.heap.size := (HO2.out.lt gT rfl).2
  have HgB := Lib.hid hgB
  obtain ⟨B2, hB2⟩ : ∃ B, w2.heap.size = B := ⟨_, rfl⟩
  rw [hB2] at HR3 HgB
  clear he3 ho3 HO2 hgB hB2
  go_wp2_with fail
  go_loopg [6, 26] LR (fun gg v6 v26 wr => ∃ (k : Nat) (F : List Nat) (Rr : Reg), k ≤ LR ∧ LR - k ≤ gg ∧ v26 = .int .i64 (k : Int) ∧ v6 = .int .i64 ((2 * F.length : Nat) : Int) ∧ F = fstL [] ((rs.take k).flatMap (walkD s)) ∧ FOk n F ∧ Ev R w Rr wr ∧ OwnI Rr w.heap.size 3 wr (.slice (some ⟨gT, 0, none⟩) n cT) (namesF n F) ∧ OwnI Rr B2 3 wr (.slice aR LR cR) (toI rs))
  case atStart => exact ⟨0, [], R3, Nat.zero_le _, by omega, rfl, rfl, by simp [fstL], FOk.nil n, HE3.out, HO3.out, HR3.out⟩
  case round =>
    obtain ⟨k, F, Rr, hk, hg, rfl, rfl, hF, hFok, hev, ho, hro⟩ := hrel
    obtain ⟨t0, ht0⟩ : ∃ t, 2 * F.length = t := ⟨_, rfl⟩
    have HT0 := Lib.hid ht0
    have HFe' := Lib.hid hF
    have HFk := Lib.hid hFok
    have HE := Lib.hid hev
    have HO := Lib.hid ho
    have HRo := Lib.hid hro
    rw [ht0]
    clear hF hFok hev ho hro ht0
    by_cases hkl : k < LR
    · have hkr : k < rs.length := by rw [HLR.out]; exact hkl
      obtain ⟨gR, rfl, _, _, hc, _⟩ := HRo.out.headAt (by rw [toI_length, HLR.out]) hkl
      rw [toI_nth] at hc
      have hrm := HLt.out (at' rs k) (by rw [at'_eq hkr]; exact List.getElem_mem hkr)
      have hfl := fst_flat (s := s) hkr
      rw [← HFe'.out] at hfl
      obtain ⟨r, hrr⟩ : ∃ r, at' rs k = r := ⟨_, rfl⟩
      rw [hrr] at hc hrm hfl
      have HFl := Lib.hid hfl
      have HWr := Lib.hid (HWk.out _ _ HE.out r hrm)
      have HPl := Lib.hid (walkD_length s r)
      have HIr := Lib.hid (HIx.out r hrm)
      have HWx := Lib.hid (HWl.out r hrm)
      have hsl := stepL_length s ((sizesL s).length + lone) r (partC' s r)
      have hsg := fun j (hj : j < partC' s r) => nthS_stepL (s := s) (V := (sizesL s).length + lone) (root := r) hj
      have hwg := fun j (hj : j < partC' s r) => walkD_at (s := s) (r := r) hj
      have hPb : partC' s r ≤ n := by have := tally_le (Con s r) s.length; rw [HLn.out] at this; unfold partC'; rwa [HLn.out]
      obtain ⟨P, hP⟩ : ∃ P, partC' s r = P := ⟨_, rfl⟩
      rw [hP] at hPb HWr HPl hsl hsg hwg
      obtain ⟨SL, hSL⟩ : ∃ l, stepL s ((sizesL s).length + lone) r P = l := ⟨_, rfl⟩
      rw [hSL] at HWr hsl hsg
      have HSg := Lib.hid hsg
      have HWg := Lib.hid hwg
      have HPe := Lib.hid hP
      have HSl := Lib.hid hsl
      clear hrr hfl hsl hP hSL hsg hwg
      go_wp2_with fail
      refine HWr.out.mono ?_
      rintro e w5 ⟨R5, a5, c5, rfl, he5, ho5⟩
      rw [HSl.out] at ho5 ⊢
      have HE5 := Lib.hid (HE.out.trans he5)
      have HO5 := Lib.hid (HO.out.ev he5)
      have HR5 := Lib.hid (HRo.out.ev he5)
      have hgz : gT < wr.heap.size := (HO.out.lt gT rfl).2
      have HS5 := Lib.hid ho5
      obtain ⟨B3, hB3⟩ : ∃ B, wr.heap.size = B := ⟨_, rfl⟩
      rw [hB3] at HS5 hgz
      have HGz := Lib.hid hgz
      obtain ⟨w6, hw6⟩ : ∃ w6, w6 = w5 := ⟨_, rfl⟩
      subst hw6
      clear he5 ho5 hc hgz hB3
      go_wp2_with fail
      go_loopg [6, 38] P (fun gg v6 v38 wr => ∃ (j : Nat) (F' : List Nat), j ≤ P ∧ P - j ≤ gg ∧ v38 = .int .i64 (j : Int) ∧ v6 = .int .i64 ((2 * F'.length : Nat) : Int) ∧ F' = fstL F ((walkD s r).take j) ∧ FOk n F' ∧ Ev R w R5 wr ∧ OwnI R5 w.heap.size 3 wr (.slice (some ⟨gT, 0, none⟩) n cT) (namesF n F') ∧ OwnI R5 B2 3 wr (.slice (some ⟨gR, 0, none⟩) LR cR) (toI rs) ∧ OwnV R5 B3 155 2 wr (.slice a5 P c5) P (stepsV SL))
      case atStart => exact ⟨0, F, Nat.zero_le _, by omega, rfl, by rw [HT0.out], rfl, HFk.out, HE5.out, HO5.out, HR5.out, HS5.out⟩
      case round =>
        obtain ⟨j, F', hj, hg2, rfl, rfl, hF, hFok, hev, ho, hro, hst⟩ := hrel
        obtain ⟨t, ht⟩ : ∃ t, 2 * F'.length = t := ⟨_, rfl⟩
        have HTt := Lib.hid ht
        have HFe2 := Lib.hid hF
        have HFk2 := Lib.hid hFok
        have HE6 := Lib.hid hev
        have HO6 := Lib.hid ho
        have HR6 := Lib.hid hro
        have HS6 := Lib.hid hst
        rw [ht]
        clear hF hFok hev ho hro hst ht
        by_cases hjP : j < P
        · have hjw : j < (walkD s r).length := by rw [HPl.out]; exact hjP
          have hjl : j < SL.length := by rw [HSl.out]; exact hjP
          obtain ⟨gS, e1, _, _, c0, _⟩ := HS6.out.headAt (i := j * 2) (by rw [stepsV_length]; omega)
          subst e1
          obtain ⟨_, e1, _, _, c1, _⟩ := HS6.out.headAt (i := j * 2 + 1) (by rw [stepsV_length]; omega)
          cases e1
          rw [(stepsV_get hjl).1, HSg.out j hjP] at c0
          rw [(stepsV_get hjl).2, HSg.out j hjP] at c1
          have hdl := HWx.out (at' (walkD s r) j) (by rw [at'_eq hjw]; exact List.getElem_mem hjw)
          have hft := fst_take (F := F) hjw
          rw [HWg.out j hjP, ← HIr.out j] at hdl hft
          obtain ⟨d, hd⟩ : ∃ d, wd s ((sizesL s).length + lone) r j = d := ⟨_, rfl⟩
          obtain ⟨kd, hkd⟩ : ∃ d, wk s ((sizesL s).length + lone) r j = d := ⟨_, rfl⟩
          rw [hd] at c0 hdl hft
          rw [hkd] at c1
          rw [← HFe2.out] at hft
          have k0 : wr.cell? ⟨gS, j * 2, none⟩ = some (.int .i64 (d : Int)) := c0
          have k1 : wr.cell? ⟨gS, j * 2 + 1, none⟩ = some (.int .i64 (kd : Int)) := c1
          have HFt := Lib.hid hft
          obtain ⟨_, e2, hBT, hRT, kt, zt⟩ := HO6.out.headAt (namesF_length n F') hdl
          cases e2
          rw [namesF_at hdl] at kt
          have HEa := Lib.hid (HE6.out.alloc (.cells #[.int .i64 (d : Int), .int .i64 (kd : Int)] 155))
          have HOa := Lib.hid (HO6.out.alloc (.cells #[.int .i64 (d : Int), .int .i64 (kd : Int)] 155))
          have HRa := Lib.hid (HR6.out.alloc (.cells #[.int .i64 (d : Int), .int .i64 (kd : Int)] 155))
          have HSa := Lib.hid (HS6.out.alloc (.cells #[.int .i64 (d : Int), .int .i64 (kd : Int)] 155))
          have hgw : gT < wr.heap.size := (HO6.out.lt gT rfl).2
          clear c0 c1 hd hkd hft
          rcases nmI_cases F' d with ⟨hh, x, hx⟩ | ⟨hh, hx⟩
          · rw [hx] at kt
            have hbx : decide ((x : Int) < 0) = false := by simp
            have hbx2 : ¬ (x : Int) < 0 := by omega
            have HFn := Lib.hid (show fstL F ((walkD s r).take (j + 1)) = F' by rw [HFt.out]; unfold fstAdd; rw [if_pos hh])
            clear hh hx
            go_wp2_with fail
            go_roundg (P - (j + 1))
            case measure => omega
            case rel => exact ⟨j + 1, F', by omega, by omega, by go_num, by rw [HTt.out], HFn.out.symm, HFk2.out, HEa.out, HOa.out, HRa.out, HSa.out⟩
          · rw [hx] at kt
            have HFn := Lib.hid (show fstL F ((walkD s r).take (j + 1)) = F' ++ [d] by rw [HFt.out]; unfold fstAdd; rw [if_neg (by rw [hh]; simp)])
            have HFk3 : Hid (FOk n (F' ++ [d])) := Lib.hid (by
              have := HFk2.out.add hdl
              unfold fstAdd at this
              rwa [if_neg (by rw [hh]; simp)] at this)
            have hna := namesF_add HFk2.out HEv.out hdl hh
            have hlF := FOk.len_le HFk3.out HEv.out
            have hlA : (F' ++ [d]).length = F'.length + 1 := by simp
            rw [hlA] at hlF
            have hxl : d ^^^ 1 < n := xor_one_lt HEv.out hdl
            have HMd := Lib.hid (HMt.out R5 (wr.alloc (.cells #[.int .i64 (d : Int), .int .i64 (kd : Int)] 155)).drew HEa.out.drew d hdl)
            rw [HTt.out] at hna
            obtain ⟨dm, hdm⟩ : ∃ x, d ^^^ 1 = x := ⟨_, rfl⟩
            rw [hdm] at hna hxl HMd
            have hdd : d ≠ dm := by rw [← hdm]; exact fun e => xor_one_ne d e.symm
            obtain ⟨_, e2, _, _, km, zm⟩ := HO6.out.headAt (namesF_length n F') hxl
            cases e2
            have HNa := Lib.hid hna
            obtain ⟨t1, ht1⟩ : ∃ x, t + 1 = x := ⟨_, rfl⟩
            obtain ⟨t2, ht2⟩ : ∃ x, t + 2 = x := ⟨_, rfl⟩
            have htt := HTt.out
            have hw1 : IntKind.i64.wrap ((t : Int) + 1) = (t1 : Int) := by rw [show (t : Int) + 1 = (t1 : Int) by omega]; exact IntWalk.i64_in _ (by omega)
            have hw2 : IntKind.i64.wrap ((t : Int) + 2) = (t2 : Int) := by rw [show (t : Int) + 2 = (t2 : Int) by omega]; exact IntWalk.i64_in _ (by omega)
            have HT2 : Hid (2 * (F' ++ [d]).length = t2) := Lib.hid (by rw [hlA]; omega)
            rw [ht1] at HNa
            have hbx : decide ((-1 : Int) < 0) = true := by decide
            clear hh hx hna hdm ht1 ht2 htt hlA hlF
            go_upto_region 13 with fail
            obtain ⟨w7, hw7⟩ : ∃ w7, w7 = wr.alloc (.cells #[.int .i64 (d : Int), .int .i64 (kd : Int)] 155) := ⟨_, rfl⟩
            obtain ⟨b7, hb7⟩ : ∃ b7, wr.heap.size = b7 := ⟨_, rfl⟩
            have y0 : w7.cell? ⟨b7, 0, none⟩ = some (.int .i64 (d : Int)) := by rw [hw7, ← hb7]; simp
            have y1 : w7.cell? ⟨b7, 1, none⟩ = some (.int .i64 (kd : Int)) := by rw [hw7, ← hb7]; simp
            rw [hb7]
            rw [← hw7] at HEa HOa HRa HSa HMd ⊢
            clear hw7 hb7 k0 k1 kt zt km zm HE6 HO6 HR6 HS6 hgw
            obtain ⟨_, e2, _, _, kt, zt⟩ := HOa.out.headAt (namesF_length n F') hdl
            cases e2
            obtain ⟨_, e2, _, _, km, zm⟩ := HOa.out.headAt (namesF_length n F') hxl
            cases e2
            have HPut : Hid (OwnI R5 w.heap.size 3 ((w7.drew.setCell ⟨gT, d, none⟩ (.int .i64 (t : Int))).setCell ⟨gT, dm, none⟩ (.int .i64 (t1 : Int))) (.slice (some ⟨gT, 0, none⟩) n cT) (namesF n (F' ++ [d]))) := Lib.hid (by
              rw [← HNa.out]
              exact (HOa.out.drew.put (namesF_length n F') d hdl (t : Int)).put (by rw [List.length_set]; exact namesF_length n F') dm hxl (t1 : Int))
            have HEp : Hid (Ev R w R5 ((w7.drew.setCell ⟨gT, d, none⟩ (.int .i64 (t : Int))).setCell ⟨gT, dm, none⟩ (.int .i64 (t1 : Int)))) := Lib.hid ((HEa.out.drew.setCell (p := ⟨gT, d, none⟩) hBT hRT _).setCell (p := ⟨gT, dm, none⟩) hBT hRT _)
            have hRn : (Value.slice (some ⟨gR, 0, none⟩) LR cR).ownBlock ≠ some gT := fun e => by
              have h1 := (HRa.out.lt _ e).1
              have h2 := HgB.out
              omega
            have hSn : (Value.slice (some ⟨gS, 0, none⟩) P c5).ownBlock ≠ some gT := fun e => by
              have h1 := (HSa.out.lt _ e).1
              have h2 := HGz.out
              omega
            have HRp : Hid (OwnI R5 B2 3 ((w7.drew.setCell ⟨gT, d, none⟩ (.int .i64 (t : Int))).setCell ⟨gT, dm, none⟩ (.int .i64 (t1 : Int))) (.slice (some ⟨gR, 0, none⟩) LR cR) (toI rs)) := Lib.hid ((HRa.out.drew.setCell (a := ⟨gT, d, none⟩) hRn _).setCell (a := ⟨gT, dm, none⟩) hRn _)
            have HSp : Hid (OwnV R5 B3 155 2 ((w7.drew.setCell ⟨gT, d, none⟩ (.int .i64 (t : Int))).setCell ⟨gT, dm, none⟩ (.int .i64 (t1 : Int))) (.slice (some ⟨gS, 0, none⟩) P c5) P (stepsV SL)) := Lib.hid ((HSa.out.drew.setCell (a := ⟨gT, d, none⟩) hSn _).setCell (a := ⟨gT, dm, none⟩) hSn _)
            clear hRn hSn
            obtain ⟨z9, hz9⟩ := cell?_setCell_some (w := w7.drew) (p := ⟨gT, d, none⟩) (x := .int .i64 (t : Int)) (q := ⟨gT, dm, none⟩) (v := .int .i64 (nth (namesF n F') dm)) (by go_simp)
            have hz9' : (w7.setCell ⟨gT, d, none⟩ (.int .i64 (t : Int))).cell? ⟨gT, dm, none⟩ = some z9 := hz9
            go_region_with (go_at_call 49; refine HMd.out.mono ?_; rintro e w' ⟨rfl, rfl⟩)
            all_goals (go_wp2_with fail)
            all_goals (clear hz9 hz9' kt km zt zm y0 y1)
            all_goals go_roundg (P - (j + 1))
            all_goals first
              | (case measure => omega)
              | skip
            all_goals (first | omega | exact ⟨j + 1, F' ++ [d], by omega, by omega, by go_num, by rw [HT2.out], HFn.out.symm, HFk3.out, HEp.out, HPut.out, HRp.out, HSp.out⟩)
        · obtain rfl : j = P := by omega
          have HFz := Lib.hid (show fstL F (walkD s r) = F' by rw [HFe2.out, ← HPl.out, List.take_length])
          go_wp2_with fail
          go_roundg (LR - (k + 1))
          case measure => omega
          case rel => exact ⟨k + 1, F', R5, by omega, by omega, by go_num, by rw [HTt.out], by rw [HFl.out, HFz.out], HFk2.out, HE6.out, HO6.out, HR6.out⟩
    · obtain rfl : k = LR := by omega
      have hF := HFe'.out
      rw [← HLR.out, List.take_length] at hF
      have hT := HFin.out
      rw [← hF] at hT
      have h2 := HFe.out
      rw [← hF, HT0.out] at h2
      subst h2
      have ho := HO.out
      rw [hT] at ho
      have HOf := Lib.hid (of_any Rr wr HE.out.inv _ (toI T) ho.ints (by rw [toI_length, HTl.out]; omega))
      have hnb : ((t0 : Int) == 0) = false := by simp; omega
      clear hF hT ho
      go_wp2_with fail
      refine HOf.out.mono ?_
      rintro e wF (⟨hno, _⟩ | ⟨S, pm, RF, hS, hx, rfl, heF, hpm⟩)
      · exact absurd ⟨T, HCp.out, rfl⟩ hno
      · have hST := toI_inj hx
        subst hST
        have HEF := Lib.hid (HE.out.trans heF)
        have HPm := Lib.hid hpm
        have HRq := Lib.hid (HRl.out _ _ HEF.out _ hpm)
        clear heF hpm hx
        go_wp2_with fail
        refine HRq.out.mono ?_
        rintro e wG ⟨q, RG, rfl, heG, hq⟩
        have HEG := Lib.hid (HEF.out.trans heG)
        have HQ := Lib.hid hq
        have HPg := Lib.hid (heG.perm HPm.out)
        clear heG hq
        go_wp2_with fail
        go_ret3
        exact ⟨q, pm, RG, rfl, HEG.out, HQ.out, HPg.out⟩

set_option maxRecDepth 100000 in
set_option maxHeartbeats 1000000 in
theorem canon_none (R : Reg) (w : World) (hI : Inv R w) (p : Value) (s : List Nat) (root lone : Int) (hp : MapAt R p s root lone) (h0 : s.length = 0) :
    Calls Tryz.prog 113 #[p] w fun e w' => ∃ pm R', e = .returned (.tuple #[p, pm, .int .i64 0]) ∧ Ev R w R' w' ∧ PermAt R' pm [] := by
  have hd := fun R' w' (he : Ev R w R' w') => darts_any R' w' he.inv p s root lone (he.map hp)
  have HRs := Lib.hid (fun R' w' (he : Ev R w R' w') => roots_none R' w' he.inv p s root lone (he.map hp) h0)
  rw [h0] at hd
  have HD := Lib.hid hd
  obtain ⟨b, rfl, hb⟩ := hp
  have hrep := Lib.hid (fun R' w' (hI : Inv R' w') v (hv : Ints w' v [(-1 : Int)]) => repeat_one R' w' hI v (-1) hv 0 (by omega))
  have HE1 := Lib.hid ((Ev.refl hI).alloc (.cells #[.int .i64 (-1)] 3))
  have HO1 := Lib.hid (OwnI.lit (B := w.heap.size) hI (Nat.le_refl _) (-1))
  clear hI hb hd h0
  go_enter Tryz.func113, Tryz.ntmps113
  go_wp2_with fail
  refine (HD.out _ _ HE1.out).mono ?_
  rintro e w' ⟨rfl, rfl⟩
  go_wp2_with fail
  refine (hrep.out _ _ HE1.out.inv _ HO1.out.ints).mono ?_
  rintro e w2 ⟨v2, rfl, he2, ho2⟩
  obtain ⟨a2, cT, rfl, _⟩ := ho2.ints.open
  have HE2 := Lib.hid (HE1.out.trans he2)
  have HOf := Lib.hid (of_any R w2 HE2.out.inv _ _ ho2.ints (by simp))
  simp only [List.replicate_zero, List.length_nil] at HOf ⊢
  clear he2 ho2 HO1
  go_wp2_with fail
  refine (HRs.out _ _ HE2.out).mono ?_
  rintro e w3 ⟨rfl, rfl⟩
  go_wp2_with fail
  go_loopg [6, 26] 0 (fun gg v6 v26 wr => v6 = .int .i64 0 ∧ v26 = .int .i64 0 ∧ wr = w2)
  case atStart => exact ⟨rfl, rfl, rfl⟩
  case round =>
    obtain ⟨rfl, rfl, rfl⟩ := hrel
    go_wp2_with fail
    refine HOf.out.mono ?_
    rintro e wF (⟨hno, _⟩ | ⟨S, pm, RF, hS, hx, rfl, heF, hpm⟩)
    · exact absurd ⟨[], range_perm 0, rfl⟩ hno
    · have hS0 : S = [] := by
        cases S with
        | nil => rfl
        | cons a l => cases hx
      subst hS0
      have HEF := Lib.hid (HE2.out.trans heF)
      have HPm := Lib.hid hpm
      clear heF hpm hx
      go_wp2_with fail
      go_ret3
      exact ⟨pm, RF, rfl, HEF.out, HPm.out⟩

end Go.Proofs.YtklkgicjfnbndaaGreat

namespace Go.Proofs.YtklkgicjfnbndaaGreat
open Go.RowKit
set_option linter.unusedVariables false

/-- the canonical map, its root, its names -/
noncomputable def canM (s : List Nat) (root : Int) : List Nat := if s.length = 0 then s else relL s (canL s root.toNat)
def canR (s : List Nat) (root : Int) : Int := if s.length = 0 then root else 0
noncomputable def canPm (s : List Nat) (root : Int) : List Nat := if s.length = 0 then [] else canL s root.toNat

theorem canon_any (R : Reg) (w : World) (hI : Inv R w) (p : Value) (s : List Nat) (root : Int) (lone : Nat) (hp : MapAt R p s root lone) :
    Calls Tryz.prog 113 #[p] w fun e w' => ∃ q pm R', e = .returned (.tuple #[q, pm, .int .i64 0]) ∧ Ev R w R' w' ∧ MapAt R' q (canM s root) (canR s root) lone ∧ PermAt R' pm (canPm s root) := by
  obtain ⟨hs, hok⟩ := hp.ok hI
  by_cases h0 : s.length = 0
  · refine (canon_none R w hI p s root lone hp h0).mono ?_
    rintro e w' ⟨pm, R', rfl, he, hpm⟩
    unfold canM canR canPm
    rw [if_pos h0, if_pos h0, if_pos h0]
    exact ⟨p, pm, R', rfl, he, he.map hp, hpm⟩
  · have hr : 0 ≤ root ∧ root < s.length := by have := hok.2.2.2.2; omega
    obtain ⟨r, rfl⟩ : ∃ r : Nat, root = (r : Int) := ⟨root.toNat, by omega⟩
    refine (canon_some R w hI p s r lone hp (by omega)).mono ?_
    rintro e w' ⟨q, pm, R', rfl, he, hq, hpm⟩
    unfold canM canR canPm
    rw [if_neg h0, if_neg h0, if_neg h0, Int.toNat_natCast]
    exact ⟨q, pm, R', rfl, he, hq, hpm⟩

end Go.Proofs.YtklkgicjfnbndaaGreat

namespace Go.Proofs.YtklkgicjfnbndaaGreat
open Go.RowKit Go.Maps
set_option linter.unusedVariables false

theorem boxC_cells {w : World} {b : Nat} {x y z : Value} {T : TypeId} (hb : w.heap[b]? = some (.cells #[x, y, z] T (0, 0))) : w.cell? ⟨b, 0, none⟩ = some x ∧ w.cell? ⟨b, 1, none⟩ = some y ∧ w.cell? ⟨b, 2, none⟩ = some z ∧ ∀ o, w.frozen? ⟨b, o, none⟩ = false :=
  ⟨cells_at hb 0, cells_at hb 1, cells_at hb 2, fun o => by simp [World.frozen?, hb]⟩
end Go.Proofs.YtklkgicjfnbndaaGreat
