/- canon.Canon. Conditions: the map is registered, or nil. canon.Canon, Iso, Is, Shape, of maps and of nil. Conditions: the maps are registered, or nil. parquetrylaw11: of, awake. Conditions: the map's list lies in memory. A map of one part has one canonical map, by whatever names its darts go. Conditions: none. Two maps that are alike, root to root: a way from dart to dart, followed. Plain law. Conditions: the first is of one part. -/
import Derived.Test.YtlbhmonpfchocaaZCanonIso24
import Derived.Test.YtlbhmonpfchocaaZCanonIso25
import Derived.StillTailTactics
import Derived.OwnWalk
import Derived.Test.YtlbhmonpfchocaaZCanonIso12
import Derived.Test.YtlbhmonpfchocaaZCanonIso21
import Derived.Test.YtlbhmonpfchocaaZCanonIso13
namespace Go.Proofs.Ytlbhmonpfchocaa
open Go.RowKit
set_option linter.unusedVariables false

theorem canon_nil (w : World) : Calls Try.prog 32 #[.pointer none] w fun e w' => e = .returned (.tuple #[.pointer none, .pointer none, .int .i64 2]) ∧ w = w' := by
  go_enter Try.func32, Try.ntmps32
  go_wp2_with fail
  go_ret3
  exact ⟨rfl, rfl⟩

theorem FOk.len_le {n : Nat} {F : List Nat} (h : FOk n F) (he : n % 2 = 0) : 2 * F.length ≤ n := by
  have hnd : (F.map (fun x => x / 2)).Nodup := by
    rw [List.nodup_iff_pairwise_ne, List.pairwise_iff_getElem]
    intro i j hi hj hij e
    simp only [List.getElem_map] at e
    rw [List.length_map] at hi hj
    have := h.one i j hi hj (by rw [at'_eq hi, at'_eq hj]; exact e)
    omega
  have h1 : (F.map (fun x => x / 2)).length ≤ (List.range (n / 2)).length := hnd.length_le_of_subset fun x hx => by
    obtain ⟨y, hy, rfl⟩ := List.mem_map.1 hx
    obtain ⟨i, hi, rfl⟩ := List.getElem_of_mem hy
    have := h.lt i hi
    rw [at'_eq hi] at this
    exact List.mem_range.2 (by omega)
  simp at h1
  omega
/-- a map by its canonical names, and these -/
def RetCan (R : Reg) (w : World) (s : List Nat) (root lone : Nat) (e : Ending) (w' : World) : Prop :=
  ∃ q pm R', e = .returned (.tuple #[q, pm, .int .i64 0]) ∧ Ev R w R' w' ∧ MapAt R' q (relL s (canL s root)) 0 lone ∧ PermAt R' pm (canL s root)

theorem nmI_cases (F : List Nat) (d : Nat) : (hasE F d = true ∧ ∃ x : Nat, nmI F d = (x : Int)) ∨ (hasE F d = false ∧ nmI F d = -1) := by
  unfold nmI
  by_cases h : hasE F d = true
  · exact Or.inl ⟨h, _, by rw [if_pos h]⟩
  · exact Or.inr ⟨by simpa using h, by rw [if_neg h]⟩
theorem fst_take {F ds : List Nat} {j : Nat} (hj : j < ds.length) : fstL F (ds.take (j + 1)) = fstAdd (fstL F (ds.take j)) (at' ds j) := by
  unfold fstL
  rw [foldl_take_succ _ _ _ _ hj, at'_eq hj]
theorem fst_flat {s : List Nat} {rs : List Nat} {k : Nat} (hk : k < rs.length) : fstL [] ((rs.take (k + 1)).flatMap (walkD s)) = fstL (fstL [] ((rs.take k).flatMap (walkD s))) (walkD s (at' rs k)) := by
  rw [List.take_succ_eq_append_getElem hk, List.flatMap_append, at'_eq hk]
  unfold fstL
  rw [List.foldl_append]
  simp
theorem walkD_length (s : List Nat) (r : Nat) : (walkD s r).length = partC' s r := by simp [walkD]
theorem walkD_at {s : List Nat} {r j : Nat} (hj : j < partC' s r) : at' (walkD s r) j = wd s (sizesL s).length r j := by simp [walkD, at', hj]

set_option maxRecDepth 100000 in
set_option maxHeartbeats 4000000 in
theorem canon_some (R : Reg) (w : World) (hI : Inv R w) (p : Value) (s : List Nat) (root lone : Nat) (hp : MapAt R p s (root : Int) lone) (hr : root < s.length) :
    Calls Try.prog 32 #[p] w (RetCan R w s root lone) := by
  obtain ⟨hs, hok⟩ := hp.ok hI
  have he2 : s.length % 2 = 0 := hok.1
  have hn : s.length ≤ 131073 := hok.2.1
  have hlone : lone ≤ 65536 := by have := hok.2.2; omega
  have HD := Lib.hid (fun R' w' (he : Ev R w R' w') => darts_any R' w' he.inv p s root lone (he.map hp))
  have HRs := Lib.hid (fun R' w' (he : Ev R w R' w') => roots_some R' w' he.inv p s root lone (he.map hp) hr)
  have HWk := Lib.hid (fun R' w' (he : Ev R w R' w') r (hr : r < s.length) => walk_of R' w' he.inv p s root lone (he.map hp) r hr)
  have HMt := Lib.hid (fun R' w' (he : Ev R w R' w') d (hd : d < s.length) => (by
    have := mate_any R' w' he.inv p s root lone (he.map hp) (d : Int)
    rw [mateI_in hd] at this
    exact this : Calls Try.prog 77 #[p, .int .i64 (d : Int)] w' _))
  have hcp := canL_perm hs he2 hr
  have hcm := canL_mates hs he2 hr
  have hcl : (canL s root).length = s.length := canP_length _ _
  have HRl := Lib.hid (fun R' w' (he : Ev R w R' w') q (hq : PermAt R' q (canL s root)) => (by
    have h := relabel_yes R' w' he.inv p q s (canL s root) root lone (he.map hp) hq hcp hcl hcm
    have e : atI (canL s root) (root : Int) = 0 := by rw [atI_in (by rw [hcl]; exact hr), canL_root hs he2 hr]; rfl
    rw [e] at h
    exact h : Calls Try.prog 79 #[p, q] w' (NewYes R' w' (relL s (canL s root)) 0 lone)))
  have HIx := Lib.hid (fun r (hr : r < s.length) j => wd_V hs he2 (V := (sizesL s).length + lone) (by omega) hr j)
  have HLt := Lib.hid (rootsL_lt hr)
  have HWl := Lib.hid (fun r (hr : r < s.length) x (hx : x ∈ walkD s r) => (Con.per hs).cod ((mem_walkD hs he2 hr).1 hx))
  have hnl := canF_length (canF_ok hs he2 hr) he2 (canF_all hs he2 hr)
  have HNl := Lib.hid hnl
  have HFin := Lib.hid (show namesF s.length (fstL [] ((rootsL s root).flatMap (walkD s))) = toI (canL s root) by
    have e : canF s root = fstL [] ((rootsL s root).flatMap (walkD s)) := by
      unfold canF canD
      rw [if_neg (by omega)]
    rw [← e]
    exact namesF_all (canF_all hs he2 hr))
  have HFe := Lib.hid (show 2 * (fstL [] ((rootsL s root).flatMap (walkD s))).length = s.length by
    have e : canF s root = fstL [] ((rootsL s root).flatMap (walkD s)) := by
      unfold canF canD
      rw [if_neg (by omega)]
    rw [← e]
    exact hnl)
  have HRd := Lib.hid (show (rootsL s root).length ≤ s.length + 1 by
    unfold rootsL restTo
    rw [List.length_cons]
    have := List.length_filter_le (firstB (partsL s) root) (List.range s.length)
    rw [List.length_range] at this
    omega)
  obtain ⟨T, hT⟩ : ∃ T, canL s root = T := ⟨_, rfl⟩
  have hgoal : RetCan R w s root lone = fun e w' => ∃ q pm R', e = .returned (.tuple #[q, pm, .int .i64 0]) ∧ Ev R w R' w' ∧ MapAt R' q (relL s T) 0 lone ∧ PermAt R' pm T := by rw [← hT]; rfl
  rw [hgoal]
  rw [hT] at HRl HFin hcp hcl
  have HCp := Lib.hid hcp
  have HEv := Lib.hid he2
  obtain ⟨rs, hrs⟩ : ∃ rs, rootsL s root = rs := ⟨_, rfl⟩
  rw [hrs] at HRs HLt HFin HFe HRd
  obtain ⟨LR, hLR⟩ : ∃ L, rs.length = L := ⟨_, rfl⟩
  obtain ⟨n, hln⟩ : ∃ n, s.length = n := ⟨_, rfl⟩
  rw [hln] at HD HLt HWl HFe HFin HMt HWk HIx HRd hn hr HEv
  have HLR := Lib.hid hLR
  have HLn := Lib.hid hln
  have HTl := Lib.hid (show T.length = n by rw [hcl, hln])
  have hLRb : LR ≤ n + 1 := by rw [← hLR]; exact HRd.out
  obtain ⟨b, rfl, hb⟩ := hp
  have HI := Lib.hid hI
  have hrep := Lib.hid (fun R' w' (hI : Inv R' w') v (hv : Ints w' v [(-1 : Int)]) => repeat_one R' w' hI v (-1) hv n (by omega))
  have HE1 := Lib.hid ((Ev.refl hI).alloc (.cells #[.int .i64 (-1)] 3))
  have HO1 := Lib.hid (OwnI.lit (B := w.heap.size) hI (Nat.le_refl _) (-1))
  clear hI hb hs hok hcp hcm hcl hnl hT hgoal hrs hLR hln he2 hlone
  go_enter Try.func32, Try.ntmps32
  go_wp2_with fail
  refine (HD.out _ _ HE1.out).mono ?_
  rintro e w' ⟨rfl, rfl⟩
  go_wp2_with fail
  refine (hrep.out _ _ HE1.out.inv _ HO1.out.ints).mono ?_
  rintro e w2 ⟨v2, rfl, he2, ho2⟩
  obtain ⟨a2, cT, rfl, _⟩ := ho2.ints.open
  rw [List.length_replicate] at ho2 ⊢
  obtain ⟨gT, rfl, _, _, _, _⟩ := ho2.headAt (by rw [List.length_replicate]) (i := root) hr
  rw [← namesF_nil] at ho2
  have HE2 := Lib.hid (HE1.out.trans he2)
  have HO2 := Lib.hid (ho2.mono (B' := w.heap.size) HE1.out.size)
  clear he2 ho2 HO1
  go_wp2_with fail
  refine (HRs.out _ _ HE2.out).mono ?_
  rintro e w3 ⟨v3, R3, rfl, he3, ho3⟩
  obtain ⟨aR, cR, rfl, _⟩ := ho3.ints.open
  rw [toI_length, HLR.out] at ho3 ⊢
  have HE3 := Lib.hid (HE2.out.trans he3)
  have HO3 := Lib.hid (HO2.out.ev he3)
  have HR3 := Lib.hid ho3
  have hgB : gT < w2.heap.size := (HO2.out.lt gT rfl).2
  have HgB := Lib.hid hgB
  obtain ⟨B2, hB2⟩ : ∃ B, w2.heap.size = B := ⟨_, rfl⟩
  rw [hB2] at HR3 HgB
  clear he3 ho3 HO2 hgB hB2
  go_wp2_with fail
  go_loopg [6, 26] LR (fun gg v6 v26 wr => ∃ (k : Nat) (F : List Nat) (Rr : Reg), k ≤ LR ∧ LR - k ≤ gg ∧ v26 = .int .i64 (k : Int) ∧ v6 = .int .i64 ((2 * F.length : Nat) : Int) ∧ F = fstL [] ((rs.take k).flatMap (walkD s)) ∧ FOk n F ∧ Ev R w Rr wr ∧ OwnI Rr w.heap.size 3 wr (.slice (some ⟨gT, 0, none⟩) n cT) (namesF n F) ∧ OwnI Rr B2 3 wr (.slice aR LR cR) (toI rs))
  case atStart => exact ⟨0, [], R3, Nat.zero_le _, by omega, rfl, rfl, by simp [fstL], FOk.nil n, HE3.out, HO3.out, HR3.out⟩
  case round =>
    obtain ⟨k, F, Rr, hk, hg, rfl, rfl, hF, hFok, hev, ho, hro⟩ := hrel
    obtain ⟨t0, ht0⟩ : ∃ t, 2 * F.length = t := ⟨_, rfl⟩
    have HT0 := Lib.hid ht0
    have HFe' := Lib.hid hF
    have HFk := Lib.hid hFok
    have HE := Lib.hid hev
    have HO := Lib.hid ho
    have HRo := Lib.hid hro
    rw [ht0]
    clear hF hFok hev ho hro ht0
    by_cases hkl : k < LR
    · have hkr : k < rs.length := by rw [HLR.out]; exact hkl
      obtain ⟨gR, rfl, _, _, hc, _⟩ := HRo.out.headAt (by rw [toI_length, HLR.out]) hkl
      rw [toI_nth] at hc
      have hrm := HLt.out (at' rs k) (by rw [at'_eq hkr]; exact List.getElem_mem hkr)
      have hfl := fst_flat (s := s) hkr
      rw [← HFe'.out] at hfl
      obtain ⟨r, hrr⟩ : ∃ r, at' rs k = r := ⟨_, rfl⟩
      rw [hrr] at hc hrm hfl
      have HFl := Lib.hid hfl
      have HWr := Lib.hid (HWk.out _ _ HE.out r hrm)
      have HPl := Lib.hid (walkD_length s r)
      have HIr := Lib.hid (HIx.out r hrm)
      have HWx := Lib.hid (HWl.out r hrm)
      have hsl := stepL_length s ((sizesL s).length + lone) r (partC' s r)
      have hsg := fun j (hj : j < partC' s r) => nthS_stepL (s := s) (V := (sizesL s).length + lone) (root := r) hj
      have hwg := fun j (hj : j < partC' s r) => walkD_at (s := s) (r := r) hj
      have hPb : partC' s r ≤ n := by have := tally_le (Con s r) s.length; rw [HLn.out] at this; unfold partC'; rwa [HLn.out]
      obtain ⟨P, hP⟩ : ∃ P, partC' s r = P := ⟨_, rfl⟩
      rw [hP] at hPb HWr HPl hsl hsg hwg
      obtain ⟨SL, hSL⟩ : ∃ l, stepL s ((sizesL s).length + lone) r P = l := ⟨_, rfl⟩
      rw [hSL] at HWr hsl hsg
      have HSg := Lib.hid hsg
      have HWg := Lib.hid hwg
      have HPe := Lib.hid hP
      have HSl := Lib.hid hsl
      clear hrr hfl hsl hP hSL hsg hwg
      go_wp2_with fail
      refine HWr.out.mono ?_
      rintro e w5 ⟨R5, a5, c5, rfl, he5, ho5⟩
      rw [HSl.out] at ho5 ⊢
      have HE5 := Lib.hid (HE.out.trans he5)
      have HO5 := Lib.hid (HO.out.ev he5)
      have HR5 := Lib.hid (HRo.out.ev he5)
      have hgz : gT < wr.heap.size := (HO.out.lt gT rfl).2
      have HS5 := Lib.hid ho5
      obtain ⟨B3, hB3⟩ : ∃ B, wr.heap.size = B := ⟨_, rfl⟩
      rw [hB3] at HS5 hgz
      have HGz := Lib.hid hgz
      obtain ⟨w6, hw6⟩ : ∃ w6, w6 = w5 := ⟨_, rfl⟩
      subst hw6
      clear he5 ho5 hc hgz hB3
      go_wp2_with fail
      go_loopg [6, 38] P (fun gg v6 v38 wr => ∃ (j : Nat) (F' : List Nat), j ≤ P ∧ P - j ≤ gg ∧ v38 = .int .i64 (j : Int) ∧ v6 = .int .i64 ((2 * F'.length : Nat) : Int) ∧ F' = fstL F ((walkD s r).take j) ∧ FOk n F' ∧ Ev R w R5 wr ∧ OwnI R5 w.heap.size 3 wr (.slice (some ⟨gT, 0, none⟩) n cT) (namesF n F') ∧ OwnI R5 B2 3 wr (.slice (some ⟨gR, 0, none⟩) LR cR) (toI rs) ∧ OwnV R5 B3 115 2 wr (.slice a5 P c5) P (stepsV SL))
      case atStart => exact ⟨0, F, Nat.zero_le _, by omega, rfl, by rw [HT0.out], rfl, HFk.out, HE5.out, HO5.out, HR5.out, HS5.out⟩
      case round =>
        obtain ⟨j, F', hj, hg2, rfl, rfl, hF, hFok, hev, ho, hro, hst⟩ := hrel
        obtain ⟨t, ht⟩ : ∃ t, 2 * F'.length = t := ⟨_, rfl⟩
        have HTt := Lib.hid ht
        have HFe2 := Lib.hid hF
        have HFk2 := Lib.hid hFok
        have HE6 := Lib.hid hev
        have HO6 := Lib.hid ho
        have HR6 := Lib.hid hro
        have HS6 := Lib.hid hst
        rw [ht]
        clear hF hFok hev ho hro hst ht
        by_cases hjP : j < P
        · have hjw : j < (walkD s r).length := by rw [HPl.out]; exact hjP
          have hjl : j < SL.length := by rw [HSl.out]; exact hjP
          obtain ⟨gS, e1, _, _, c0, _⟩ := HS6.out.headAt (i := j * 2) (by rw [stepsV_length]; omega)
          subst e1
          obtain ⟨_, e1, _, _, c1, _⟩ := HS6.out.headAt (i := j * 2 + 1) (by rw [stepsV_length]; omega)
          cases e1
          rw [(stepsV_get hjl).1, HSg.out j hjP] at c0
          rw [(stepsV_get hjl).2, HSg.out j hjP] at c1
          have hdl := HWx.out (at' (walkD s r) j) (by rw [at'_eq hjw]; exact List.getElem_mem hjw)
          have hft := fst_take (F := F) hjw
          rw [HWg.out j hjP, ← HIr.out j] at hdl hft
          obtain ⟨d, hd⟩ : ∃ d, wd s ((sizesL s).length + lone) r j = d := ⟨_, rfl⟩
          obtain ⟨kd, hkd⟩ : ∃ d, wk s ((sizesL s).length + lone) r j = d := ⟨_, rfl⟩
          rw [hd] at c0 hdl hft
          rw [hkd] at c1
          rw [← HFe2.out] at hft
          have k0 : wr.cell? ⟨gS, j * 2, none⟩ = some (.int .i64 (d : Int)) := c0
          have k1 : wr.cell? ⟨gS, j * 2 + 1, none⟩ = some (.int .i64 (kd : Int)) := c1
          have HFt := Lib.hid hft
          obtain ⟨_, e2, hBT, hRT, kt, zt⟩ := HO6.out.headAt (namesF_length n F') hdl
          cases e2
          rw [namesF_at hdl] at kt
          have HEa := Lib.hid (HE6.out.alloc (.cells #[.int .i64 (d : Int), .int .i64 (kd : Int)] 115))
          have HOa := Lib.hid (HO6.out.alloc (.cells #[.int .i64 (d : Int), .int .i64 (kd : Int)] 115))
          have HRa := Lib.hid (HR6.out.alloc (.cells #[.int .i64 (d : Int), .int .i64 (kd : Int)] 115))
          have HSa := Lib.hid (HS6.out.alloc (.cells #[.int .i64 (d : Int), .int .i64 (kd : Int)] 115))
          have hgw : gT < wr.heap.size := (HO6.out.lt gT rfl).2
          clear c0 c1 hd hkd hft
          rcases nmI_cases F' d with ⟨hh, x, hx⟩ | ⟨hh, hx⟩
          · rw [hx] at kt
            have hbx : decide ((x : Int) < 0) = false := by simp
            have hbx2 : ¬ (x : Int) < 0 := by omega
            have HFn := Lib.hid (show fstL F ((walkD s r).take (j + 1)) = F' by rw [HFt.out]; unfold fstAdd; rw [if_pos hh])
            clear hh hx
            go_wp2_with fail
            go_roundg (P - (j + 1))
            case measure => omega
            case rel => exact ⟨j + 1, F', by omega, by omega, by go_num, by rw [HTt.out], HFn.out.symm, HFk2.out, HEa.out, HOa.out, HRa.out, HSa.out⟩
          · rw [hx] at kt
            have HFn := Lib.hid (show fstL F ((walkD s r).take (j + 1)) = F' ++ [d] by rw [HFt.out]; unfold fstAdd; rw [if_neg (by rw [hh]; simp)])
            have HFk3 : Hid (FOk n (F' ++ [d])) := Lib.hid (by
              have := HFk2.out.add hdl
              unfold fstAdd at this
              rwa [if_neg (by rw [hh]; simp)] at this)
            have hna := namesF_add HFk2.out HEv.out hdl hh
            have hlF := FOk.len_le HFk3.out HEv.out
            have hlA : (F' ++ [d]).length = F'.length + 1 := by simp
            rw [hlA] at hlF
            have hxl : d ^^^ 1 < n := xor_one_lt HEv.out hdl
            have HMd := Lib.hid (HMt.out R5 (wr.alloc (.cells #[.int .i64 (d : Int), .int .i64 (kd : Int)] 115)).drew HEa.out.drew d hdl)
            rw [HTt.out] at hna
            obtain ⟨dm, hdm⟩ : ∃ x, d ^^^ 1 = x := ⟨_, rfl⟩
            rw [hdm] at hna hxl HMd
            have hdd : d ≠ dm := by rw [← hdm]; exact fun e => xor_one_ne d e.symm
            obtain ⟨_, e2, _, _, km, zm⟩ := HO6.out.headAt (namesF_length n F') hxl
            cases e2
            have HNa := Lib.hid hna
            obtain ⟨t1, ht1⟩ : ∃ x, t + 1 = x := ⟨_, rfl⟩
            obtain ⟨t2, ht2⟩ : ∃ x, t + 2 = x := ⟨_, rfl⟩
            have htt := HTt.out
            have hw1 : IntKind.i64.wrap ((t : Int) + 1) = (t1 : Int) := by rw [show (t : Int) + 1 = (t1 : Int) by omega]; exact IntWalk.i64_in _ (by omega)
            have hw2 : IntKind.i64.wrap ((t : Int) + 2) = (t2 : Int) := by rw [show (t : Int) + 2 = (t2 : Int) by omega]; exact IntWalk.i64_in _ (by omega)
            have HT2 : Hid (2 * (F' ++ [d]).length = t2) := Lib.hid (by rw [hlA]; omega)
            rw [ht1] at HNa
            have hbx : decide ((-1 : Int) < 0) = true := by decide
            clear hh hx hna hdm ht1 ht2 htt hlA hlF
            go_upto_region 13 with fail
            obtain ⟨w7, hw7⟩ : ∃ w7, w7 = wr.alloc (.cells #[.int .i64 (d : Int), .int .i64 (kd : Int)] 115) := ⟨_, rfl⟩
            obtain ⟨b7, hb7⟩ : ∃ b7, wr.heap.size = b7 := ⟨_, rfl⟩
            have y0 : w7.cell? ⟨b7, 0, none⟩ = some (.int .i64 (d : Int)) := by rw [hw7, ← hb7]; simp
            have y1 : w7.cell? ⟨b7, 1, none⟩ = some (.int .i64 (kd : Int)) := by rw [hw7, ← hb7]; simp
            rw [hb7]
            rw [← hw7] at HEa HOa HRa HSa HMd ⊢
            clear hw7 hb7 k0 k1 kt zt km zm HE6 HO6 HR6 HS6 hgw
            obtain ⟨_, e2, _, _, kt, zt⟩ := HOa.out.headAt (namesF_length n F') hdl
            cases e2
            obtain ⟨_, e2, _, _, km, zm⟩ := HOa.out.headAt (namesF_length n F') hxl
            cases e2
            have HPut : Hid (OwnI R5 w.heap.size 3 ((w7.drew.setCell ⟨gT, d, none⟩ (.int .i64 (t : Int))).setCell ⟨gT, dm, none⟩ (.int .i64 (t1 : Int))) (.slice (some ⟨gT, 0, none⟩) n cT) (namesF n (F' ++ [d]))) := Lib.hid (by
              rw [← HNa.out]
              exact (HOa.out.drew.put (namesF_length n F') d hdl (t : Int)).put (by rw [List.length_set]; exact namesF_length n F') dm hxl (t1 : Int))
            have HEp : Hid (Ev R w R5 ((w7.drew.setCell ⟨gT, d, none⟩ (.int .i64 (t : Int))).setCell ⟨gT, dm, none⟩ (.int .i64 (t1 : Int)))) := Lib.hid ((HEa.out.drew.setCell (p := ⟨gT, d, none⟩) hBT hRT _).setCell (p := ⟨gT, dm, none⟩) hBT hRT _)
            have hRn : (Value.slice (some ⟨gR, 0, none⟩) LR cR).ownBlock ≠ some gT := fun e => by
              have h1 := (HRa.out.lt _ e).1
              have h2 := HgB.out
              omega
            have hSn : (Value.slice (some ⟨gS, 0, none⟩) P c5).ownBlock ≠ some gT := fun e => by
              have h1 := (HSa.out.lt _ e).1
              have h2 := HGz.out
              omega
            have HRp : Hid (OwnI R5 B2 3 ((w7.drew.setCell ⟨gT, d, none⟩ (.int .i64 (t : Int))).setCell ⟨gT, dm, none⟩ (.int .i64 (t1 : Int))) (.slice (some ⟨gR, 0, none⟩) LR cR) (toI rs)) := Lib.hid ((HRa.out.drew.setCell (a := ⟨gT, d, none⟩) hRn _).setCell (a := ⟨gT, dm, none⟩) hRn _)
            have HSp : Hid (OwnV R5 B3 115 2 ((w7.drew.setCell ⟨gT, d, none⟩ (.int .i64 (t : Int))).setCell ⟨gT, dm, none⟩ (.int .i64 (t1 : Int))) (.slice (some ⟨gS, 0, none⟩) P c5) P (stepsV SL)) := Lib.hid ((HSa.out.drew.setCell (a := ⟨gT, d, none⟩) hSn _).setCell (a := ⟨gT, dm, none⟩) hSn _)
            clear hRn hSn
            obtain ⟨z9, hz9⟩ := cell?_setCell_some (w := w7.drew) (p := ⟨gT, d, none⟩) (x := .int .i64 (t : Int)) (q := ⟨gT, dm, none⟩) (v := .int .i64 (nth (namesF n F') dm)) (by go_simp)
            have hz9' : (w7.setCell ⟨gT, d, none⟩ (.int .i64 (t : Int))).cell? ⟨gT, dm, none⟩ = some z9 := hz9
            go_region_with (go_at_call 77; refine HMd.out.mono ?_; rintro e w' ⟨rfl, rfl⟩)
            all_goals (go_wp2_with fail)
            all_goals (clear hz9 hz9' kt km zt zm y0 y1)
            all_goals go_roundg (P - (j + 1))
            all_goals first
              | (case measure => omega)
              | skip
            all_goals (first | omega | exact ⟨j + 1, F' ++ [d], by omega, by omega, by go_num, by rw [HT2.out], HFn.out.symm, HFk3.out, HEp.out, HPut.out, HRp.out, HSp.out⟩)
        · obtain rfl : j = P := by omega
          have HFz := Lib.hid (show fstL F (walkD s r) = F' by rw [HFe2.out, ← HPl.out, List.take_length])
          go_wp2_with fail
          go_roundg (LR - (k + 1))
          case measure => omega
          case rel => exact ⟨k + 1, F', R5, by omega, by omega, by go_num, by rw [HTt.out], by rw [HFl.out, HFz.out], HFk2.out, HE6.out, HO6.out, HR6.out⟩
    · obtain rfl : k = LR := by omega
      have hF := HFe'.out
      rw [← HLR.out, List.take_length] at hF
      have hT := HFin.out
      rw [← hF] at hT
      have h2 := HFe.out
      rw [← hF, HT0.out] at h2
      subst h2
      have ho := HO.out
      rw [hT] at ho
      have HOf := Lib.hid (of_any Rr wr HE.out.inv _ (toI T) ho.ints (by rw [toI_length, HTl.out]; omega))
      have hnb : ((t0 : Int) == 0) = false := by simp; omega
      clear hF hT ho
      go_wp2_with fail
      refine HOf.out.mono ?_
      rintro e wF (⟨hno, _⟩ | ⟨S, pm, RF, hS, hx, rfl, heF, hpm⟩)
      · exact absurd ⟨T, HCp.out, rfl⟩ hno
      · have hST := toI_inj hx
        subst hST
        have HEF := Lib.hid (HE.out.trans heF)
        have HPm := Lib.hid hpm
        have HRq := Lib.hid (HRl.out _ _ HEF.out _ hpm)
        clear heF hpm hx
        go_wp2_with fail
        refine HRq.out.mono ?_
        rintro e wG ⟨q, RG, rfl, heG, hq⟩
        have HEG := Lib.hid (HEF.out.trans heG)
        have HQ := Lib.hid hq
        have HPg := Lib.hid (heG.perm HPm.out)
        clear heG hq
        go_wp2_with fail
        go_ret3
        exact ⟨q, pm, RG, rfl, HEG.out, HQ.out, HPg.out⟩

set_option maxRecDepth 100000 in
set_option maxHeartbeats 1000000 in
theorem canon_none (R : Reg) (w : World) (hI : Inv R w) (p : Value) (s : List Nat) (root lone : Int) (hp : MapAt R p s root lone) (h0 : s.length = 0) :
    Calls Try.prog 32 #[p] w fun e w' => ∃ pm R', e = .returned (.tuple #[p, pm, .int .i64 0]) ∧ Ev R w R' w' ∧ PermAt R' pm [] := by
  have hd := fun R' w' (he : Ev R w R' w') => darts_any R' w' he.inv p s root lone (he.map hp)
  have HRs := Lib.hid (fun R' w' (he : Ev R w R' w') => roots_none R' w' he.inv p s root lone (he.map hp) h0)
  rw [h0] at hd
  have HD := Lib.hid hd
  obtain ⟨b, rfl, hb⟩ := hp
  have hrep := Lib.hid (fun R' w' (hI : Inv R' w') v (hv : Ints w' v [(-1 : Int)]) => repeat_one R' w' hI v (-1) hv 0 (by omega))
  have HE1 := Lib.hid ((Ev.refl hI).alloc (.cells #[.int .i64 (-1)] 3))
  have HO1 := Lib.hid (OwnI.lit (B := w.heap.size) hI (Nat.le_refl _) (-1))
  clear hI hb hd h0
  go_enter Try.func32, Try.ntmps32
  go_wp2_with fail
  refine (HD.out _ _ HE1.out).mono ?_
  rintro e w' ⟨rfl, rfl⟩
  go_wp2_with fail
  refine (hrep.out _ _ HE1.out.inv _ HO1.out.ints).mono ?_
  rintro e w2 ⟨v2, rfl, he2, ho2⟩
  obtain ⟨a2, cT, rfl, _⟩ := ho2.ints.open
  have HE2 := Lib.hid (HE1.out.trans he2)
  have HOf := Lib.hid (of_any R w2 HE2.out.inv _ _ ho2.ints (by simp))
  simp only [List.replicate_zero, List.length_nil] at HOf ⊢
  clear he2 ho2 HO1
  go_wp2_with fail
  refine (HRs.out _ _ HE2.out).mono ?_
  rintro e w3 ⟨rfl, rfl⟩
  go_wp2_with fail
  go_loopg [6, 26] 0 (fun gg v6 v26 wr => v6 = .int .i64 0 ∧ v26 = .int .i64 0 ∧ wr = w2)
  case atStart => exact ⟨rfl, rfl, rfl⟩
  case round =>
    obtain ⟨rfl, rfl, rfl⟩ := hrel
    go_wp2_with fail
    refine HOf.out.mono ?_
    rintro e wF (⟨hno, _⟩ | ⟨S, pm, RF, hS, hx, rfl, heF, hpm⟩)
    · exact absurd ⟨[], range_perm 0, rfl⟩ hno
    · have hS0 : S = [] := by
        cases S with
        | nil => rfl
        | cons a l => cases hx
      subst hS0
      have HEF := Lib.hid (HE2.out.trans heF)
      have HPm := Lib.hid hpm
      clear heF hpm hx
      go_wp2_with fail
      go_ret3
      exact ⟨pm, RF, rfl, HEF.out, HPm.out⟩

end Go.Proofs.Ytlbhmonpfchocaa

namespace Go.Proofs.Ytlbhmonpfchocaa
open Go.RowKit
set_option linter.unusedVariables false

/-- the canonical map, its root, its names -/
noncomputable def canM (s : List Nat) (root : Int) : List Nat := if s.length = 0 then s else relL s (canL s root.toNat)
def canR (s : List Nat) (root : Int) : Int := if s.length = 0 then root else 0
noncomputable def canPm (s : List Nat) (root : Int) : List Nat := if s.length = 0 then [] else canL s root.toNat

theorem canon_any (R : Reg) (w : World) (hI : Inv R w) (p : Value) (s : List Nat) (root : Int) (lone : Nat) (hp : MapAt R p s root lone) :
    Calls Try.prog 32 #[p] w fun e w' => ∃ q pm R', e = .returned (.tuple #[q, pm, .int .i64 0]) ∧ Ev R w R' w' ∧ MapAt R' q (canM s root) (canR s root) lone ∧ PermAt R' pm (canPm s root) := by
  obtain ⟨hs, hok⟩ := hp.ok hI
  by_cases h0 : s.length = 0
  · refine (canon_none R w hI p s root lone hp h0).mono ?_
    rintro e w' ⟨pm, R', rfl, he, hpm⟩
    unfold canM canR canPm
    rw [if_pos h0, if_pos h0, if_pos h0]
    exact ⟨p, pm, R', rfl, he, he.map hp, hpm⟩
  · have hr : 0 ≤ root ∧ root < s.length := by have := hok.2.2.2.2; omega
    obtain ⟨r, rfl⟩ : ∃ r : Nat, root = (r : Int) := ⟨root.toNat, by omega⟩
    refine (canon_some R w hI p s r lone hp (by omega)).mono ?_
    rintro e w' ⟨q, pm, R', rfl, he, hq, hpm⟩
    unfold canM canR canPm
    rw [if_neg h0, if_neg h0, if_neg h0, Int.toNat_natCast]
    exact ⟨q, pm, R', rfl, he, hq, hpm⟩

set_option maxRecDepth 100000 in
set_option maxHeartbeats 1000000 in
theorem iso_any (R : Reg) (w : World) (hI : Inv R w) (p q : Value) (s t : List Nat) (r1 r2 : Int) (l1 l2 : Nat) (hp : MapAt R p s r1 l1) (hq : MapAt R q t r2 l2) :
    Calls Try.prog 29 #[p, q] w (RetV R w (.bool (sameB (canM s r1) (canM t r2) (canR s r1) (canR t r2) l1 l2))) := by
  have HC1 := Lib.hid (canon_any R w hI p s r1 l1 hp)
  have HC2 := Lib.hid (fun R' w' (he : Ev R w R' w') => canon_any R' w' he.inv q t r2 l2 (he.map hq))
  clear hI hp hq
  go_enter Try.func29, Try.ntmps29
  go_wp2_with fail
  refine HC1.out.mono ?_
  rintro e w1 ⟨x, _, R1, rfl, he1, hx, _⟩
  have HE1 := Lib.hid he1
  have HX := Lib.hid hx
  clear he1 hx
  go_wp2_with fail
  refine (HC2.out _ _ HE1.out).mono ?_
  rintro e w2 ⟨y, _, R2, rfl, he2, hy, _⟩
  have HE2 := Lib.hid (HE1.out.trans he2)
  have HSm := Lib.hid (msame_any R2 w2 he2.inv x y _ _ _ _ _ _ (he2.map HX.out) hy)
  clear he2 hy
  go_wp2_with fail
  refine HSm.out.mono ?_
  rintro e w3 ⟨rfl, he3⟩
  have HE3 := Lib.hid (HE2.out.trans he3)
  clear he3
  go_wp2_with fail
  go_ret
  exact ⟨rfl, R2, HE3.out⟩

set_option maxRecDepth 100000 in
set_option maxHeartbeats 1000000 in
theorem cis_any (R : Reg) (w : World) (hI : Inv R w) (p : Value) (s : List Nat) (r : Int) (l : Nat) (hp : MapAt R p s r l) :
    Calls Try.prog 39 #[p] w (RetV R w (.bool (sameB (canM s r) s (canR s r) r l l))) := by
  have HC1 := Lib.hid (canon_any R w hI p s r l hp)
  have HP := Lib.hid hp
  clear hI hp
  go_enter Try.func39, Try.ntmps39
  go_wp2_with fail
  refine HC1.out.mono ?_
  rintro e w1 ⟨x, _, R1, rfl, he1, hx, _⟩
  have HE1 := Lib.hid he1
  have HSm := Lib.hid (msame_any R1 w1 he1.inv x p _ _ _ _ _ _ hx (he1.map HP.out))
  clear he1 hx
  go_wp2_with fail
  refine HSm.out.mono ?_
  rintro e w3 ⟨rfl, he3⟩
  have HE3 := Lib.hid (HE1.out.trans he3)
  clear he3
  go_wp2_with fail
  go_ret
  exact ⟨rfl, R1, HE3.out⟩

/-- how many of the first so many darts the map can be rooted at, alike -/
noncomputable def shapeTo (s : List Nat) (root : Int) : Nat → Nat
  | 0 => 0
  | k + 1 => shapeTo s root k + if canM s (k : Int) = canM s root then 1 else 0
noncomputable def shapeN (s : List Nat) (root : Int) (l : Nat) : Nat := if partsN s + l = 1 then shapeTo s root s.length else 0
theorem shapeTo_le (s : List Nat) (root : Int) : ∀ k, shapeTo s root k ≤ k
  | 0 => Nat.le_refl _
  | k + 1 => by
    have := shapeTo_le s root k
    show shapeTo s root k + _ ≤ k + 1
    split <;> omega

set_option maxRecDepth 100000 in
set_option maxHeartbeats 2000000 in
theorem shape_any (R : Reg) (w : World) (hI : Inv R w) (p : Value) (s : List Nat) (r : Int) (l : Nat) (hp : MapAt R p s r l) :
    Calls Try.prog 31 #[p] w (RetV R w (.int .i64 ((shapeN s r l : Nat) : Int))) := by
  obtain ⟨hs, hok⟩ := hp.ok hI
  have hn : s.length ≤ 131073 := hok.2.1
  have HCn := Lib.hid (connected_any R w hI p s r l hp)
  have HD := Lib.hid (fun R' w' (he : Ev R w R' w') => darts_any R' w' he.inv p s r l (he.map hp))
  have HRt := Lib.hid (fun R' w' (he : Ev R w R' w') d => rooted_any R' w' he.inv p s r l (he.map hp) d)
  have HIs := Lib.hid (fun R' w' (he : Ev R w R' w') q (d : Nat) (hq : MapAt R' q s d l) => iso_any R' w' he.inv q p s s d r l l hq (he.map hp))
  have hcr : ∀ d : Nat, d < s.length → ((sameB (canM s d) (canM s r) (canR s d) (canR s r) l l) = decide (canM s d = canM s r)) := fun d hd => by
    unfold sameB canR
    rw [if_neg (by omega), if_neg (by omega)]
    simp
  have HCr := Lib.hid hcr
  by_cases hc : partsN s + l = 1
  · have hb : decide (partsN s + l = 1) = true := decide_eq_true hc
    have hsn : shapeN s r l = shapeTo s r s.length := by unfold shapeN; rw [if_pos hc]
    have hsl := shapeTo_le s r
    rw [hb] at HCn
    rw [hsn]
    have HSl := Lib.hid hsl
    obtain ⟨n, hln⟩ : ∃ n, s.length = n := ⟨_, rfl⟩
    rw [hln] at HD HCr hn ⊢
    have HLn := Lib.hid hln
    clear hI hp hs hok hcr hc hsn hsl hln hb
    go_enter Try.func31, Try.ntmps31
    go_wp2_with fail
    refine HCn.out.mono ?_
    rintro e w1 ⟨rfl, R1, he1⟩
    have HE1 := Lib.hid he1
    clear he1
    go_wp2_with fail
    refine (HD.out _ _ HE1.out).mono ?_
    rintro e w' ⟨rfl, rfl⟩
    go_wp2_with fail
    go_loopg [3, 12] n (fun g v3 v12 wr => ∃ (k : Nat) (Rr : Reg), k ≤ n ∧ n - k ≤ g ∧ v12 = .int .i64 (k : Int) ∧ v3 = .int .i64 ((shapeTo s r k : Nat) : Int) ∧ Ev R w Rr wr)
    case atStart => exact ⟨0, R1, Nat.zero_le _, by omega, rfl, rfl, HE1.out⟩
    case round =>
      obtain ⟨k, Rr, hk, hg, rfl, rfl, hev⟩ := hrel
      have HE := Lib.hid hev
      have hsk := HSl.out k
      have HSs := Lib.hid (show shapeTo s r (k + 1) = shapeTo s r k + if canM s (k : Int) = canM s r then 1 else 0 from rfl)
      obtain ⟨c, hc⟩ : ∃ c, shapeTo s r k = c := ⟨_, rfl⟩
      rw [hc] at hsk HSs ⊢
      have HCc := Lib.hid hc
      clear hev hc
      by_cases hkn : k < n
      · have HRk := Lib.hid (HRt.out _ _ HE.out (k : Int))
        have hw1 : IntKind.i64.wrap ((c : Int) + 1) = ((c + 1 : Nat) : Int) := by rw [show (c : Int) + 1 = ((c + 1 : Nat) : Int) by omega]; exact IntWalk.i64_in _ (by omega)
        obtain ⟨c1, hc1⟩ : ∃ x, c + 1 = x := ⟨_, rfl⟩
        rw [hc1] at hw1
        have HC1 := Lib.hid hc1
        clear hc1
        go_wp2_with fail
        refine HRk.out.mono ?_
        rintro e w2 (⟨h1, _⟩ | ⟨_, _, q, R2, rfl, he2, hq⟩)
        · exact absurd h1 (by rw [HLn.out]; omega)
        · have HE2 := Lib.hid (HE.out.trans he2)
          have hi := HIs.out _ _ HE2.out q k hq
          rw [HCr.out k hkn] at hi
          by_cases hcc : canM s (k : Int) = canM s r
          · rw [decide_eq_true hcc] at hi
            have HI' := Lib.hid hi
            have HS1 := Lib.hid (show shapeTo s r (k + 1) = c1 by rw [HSs.out, if_pos hcc, HC1.out])
            clear hi hq he2 hcc
            go_wp2_with fail
            refine HI'.out.mono ?_
            rintro e w3 ⟨rfl, R3, he3⟩
            have HE3 := Lib.hid (HE2.out.trans he3)
            clear he3
            go_wp2_with fail
            go_roundg (n - (k + 1))
            case measure => omega
            case rel => exact ⟨k + 1, R3, by omega, by omega, by go_num, by rw [HS1.out], HE3.out⟩
          · rw [decide_eq_false hcc] at hi
            have HI' := Lib.hid hi
            have HS1 := Lib.hid (show shapeTo s r (k + 1) = c by rw [HSs.out, if_neg hcc]; omega)
            clear hi hq he2 hcc
            go_wp2_with fail
            refine HI'.out.mono ?_
            rintro e w3 ⟨rfl, R3, he3⟩
            have HE3 := Lib.hid (HE2.out.trans he3)
            clear he3
            go_wp2_with fail
            go_roundg (n - (k + 1))
            case measure => omega
            case rel => exact ⟨k + 1, R3, by omega, by omega, by go_num, by rw [HS1.out], HE3.out⟩
      · obtain rfl : k = n := by omega
        go_wp2_with fail
        go_ret
        exact ⟨by rw [HCc.out]; rfl, Rr, HE.out⟩
  · have hb : decide (partsN s + l = 1) = false := decide_eq_false hc
    have hsn : shapeN s r l = 0 := by unfold shapeN; rw [if_neg hc]
    rw [hb] at HCn
    rw [hsn]
    clear hI hp hs hok hcr hc hsn hb
    go_enter Try.func31, Try.ntmps31
    go_wp2_with fail
    refine HCn.out.mono ?_
    rintro e w1 ⟨rfl, R1, he1⟩
    have HE1 := Lib.hid he1
    clear he1
    go_wp2_with fail
    go_ret
    exact ⟨rfl, R1, HE1.out⟩

end Go.Proofs.Ytlbhmonpfchocaa

namespace Go.Proofs.Ytlbhmonpfchocaa
open Go.RowKit
set_option linter.unusedVariables false

/-- the same, computed -/
def walkC (s : List Nat) (r : Nat) : List Nat := (List.range (dcnt (partsL s) (nth (partsL s) r) s.length)).map (wd s (sizesL s).length r)
def canDC (s : List Nat) (root : Nat) : List Nat := if s.length = 0 then [] else (rootsL s root).flatMap (walkC s)
def canLC (s : List Nat) (root : Nat) : List Nat := canP s.length (fstL [] (canDC s root))
def canMC (s : List Nat) (root : Nat) : List Nat := relL s (canLC s root)
def shapeC (s : List Nat) (root : Nat) (k : Nat) : Nat := ((List.range k).filter fun d => decide (canMC s d = canMC s root)).length
theorem walkC_eq {s : List Nat} (hs : IsPerm s) (he : s.length % 2 = 0) {r : Nat} (hr : r < s.length) : walkD s r = walkC s r := by
  unfold walkD walkC
  rw [wpart hs he hr (V := (sizesL s).length) (Nat.le_refl _)]
theorem canLC_eq {s : List Nat} (hs : IsPerm s) (he : s.length % 2 = 0) {r : Nat} (hr : r < s.length) : canL s r = canLC s r := by
  unfold canL canLC canF canD canDC
  rw [if_neg (by omega), if_neg (by omega)]
  congr 2
  have key : ∀ l : List Nat, (∀ x, x ∈ l → x < s.length) → l.flatMap (walkD s) = l.flatMap (walkC s) := fun l => by
    induction l with
    | nil => intro _; rfl
    | cons a l ih =>
      intro h
      rw [List.flatMap_cons, List.flatMap_cons, ih fun x hx => h x (List.mem_cons_of_mem _ hx), walkC_eq hs he (h a List.mem_cons_self)]
  exact key _ (rootsL_lt hr)
theorem canMC_eq {s : List Nat} (hs : IsPerm s) (he : s.length % 2 = 0) {r : Nat} (hr : r < s.length) : canM s (r : Int) = canMC s r := by
  unfold canM canMC
  rw [if_neg (by omega), Int.toNat_natCast, canLC_eq hs he hr]
theorem shapeC_eq {s : List Nat} (hs : IsPerm s) (he : s.length % 2 = 0) {r : Nat} (hr : r < s.length) : ∀ k, k ≤ s.length → shapeTo s (r : Int) k = shapeC s r k
  | 0, _ => rfl
  | k + 1, hk => by
    show shapeTo s (r : Int) k + _ = _
    rw [shapeC_eq hs he hr k (by omega), canMC_eq hs he hr, canMC_eq hs he (r := k) (by omega)]
    unfold shapeC
    rw [List.range_succ, List.filter_append, List.length_append]
    congr 1
    by_cases h : canMC s k = canMC s r <;> simp [h]

theorem perm6 : IsPerm [5, 2, 1, 4, 3, 0] := ⟨by decide, by decide⟩
theorem perm2 : IsPerm [1, 0] := ⟨by decide, by decide⟩
theorem shape_a : shapeC [0, 1] 0 2 = 2 ∧ partsN [0, 1] = 1 := by decide +kernel
theorem shape_b : shapeC [1, 0] 0 2 = 2 ∧ partsN [1, 0] = 1 := by decide +kernel
theorem shape_c : shapeC [5, 2, 1, 4, 3, 0] 0 6 = 6 ∧ partsN [5, 2, 1, 4, 3, 0] = 1 := by decide +kernel
theorem shape_of {s : List Nat} (hs : IsPerm s) (he : s.length % 2 = 0) (h0 : 0 < s.length) {k : Nat} (h : shapeC s 0 s.length = k ∧ partsN s = 1) : shapeN s 0 0 = k := by
  unfold shapeN
  rw [if_pos (by rw [h.2])]
  have := shapeC_eq hs he (r := 0) h0 s.length (Nat.le_refl _)
  rw [h.1] at this
  exact this
theorem FreeI.six {R : Reg} {w : World} (hI : Inv R w) (a b c d e f : Int) : FreeI R (w.alloc (.cells #[.int .i64 a, .int .i64 b, .int .i64 c, .int .i64 d, .int .i64 e, .int .i64 f] 3)) (.slice (some ⟨w.heap.size, 0, none⟩) 6 6) [a, b, c, d, e, f] := by
  have h := World.ownsRow_lit (base := w.heap.size) (e := 3) (size := 1) w #[.int .i64 a, .int .i64 b, .int .i64 c, .int .i64 d, .int .i64 e, .int .i64 f] 6 (Nat.le_refl _) (by simp [maxLen]) rfl
  have ho : OwnI R w.heap.size 3 (w.alloc (.cells #[.int .i64 a, .int .i64 b, .int .i64 c, .int .i64 d, .int .i64 e, .int .i64 f] 3)) (.slice (some ⟨w.heap.size, 0, none⟩) 6 6) [a, b, c, d, e, f] := by
    refine ⟨by simpa using h, fun k hk => ?_⟩
    simp only [Value.ownBlock, Option.some.injEq] at hk
    rw [← hk]
    exact hI.none_of_ge (Nat.le_refl _)
  exact ho.free

set_option maxRecDepth 100000 in
set_option maxHeartbeats 1000000 in
theorem of11_any (R : Reg) (w : World) (hI : Inv R w) (v : Value) (s : List Nat) (root lone : Int) (hv : FreeI R w v (toI s)) (hS : IsPerm s) (hok : MapOk s root lone) :
    Calls Try.prog 26 #[refV v root lone] w fun e w' => ∃ p R', e = .returned p ∧ Ev R w R' w' ∧ MapAt R' p s root lone := by
  obtain ⟨a0, cap0, rfl, _⟩ := hv.open
  rw [toI_length] at hv ⊢
  unfold refV
  have he1 : Ev R w R (w.alloc (.cells #[.slice a0 s.length cap0, .int .i64 root, .int .i64 lone] 34)) := (Ev.refl hI).alloc _
  have HN := Lib.hid (new_yes R _ he1.inv _ s (hv.ev he1) root lone hS hok)
  have HE1 := Lib.hid he1
  clear hI hv hS hok he1
  go_enter Try.func26, Try.ntmps26
  go_wp2_with fail
  refine HN.out.mono ?_
  rintro e w2 ⟨p, R2, rfl, he2, hp⟩
  have HE2 := Lib.hid (HE1.out.trans he2)
  have HP := Lib.hid hp
  clear he2 hp
  go_wp2_with fail
  go_ret
  exact ⟨_, R2, rfl, HE2.out, HP.out⟩

set_option maxRecDepth 100000 in
set_option maxHeartbeats 2000000 in
theorem awake11_any (R : Reg) (w : World) (hI : Inv R w) : Calls Try.prog 24 #[] w (RetTrue R w) := by
  have hok1 : MapOk [0, 1] 0 0 := by unfold MapOk; simp
  have hok2 : MapOk [1, 0] 0 0 := by unfold MapOk; simp
  have hok3 : MapOk [5, 2, 1, 4, 3, 0] 0 0 := by unfold MapOk; simp
  have H1 := Lib.hid (new_yes R _ (hI.alloc _) _ [0, 1] (FreeI.two hI 0 1) 0 0 perm01 hok1)
  have H2 := Lib.hid (fun R' w' (hI' : Inv R' w') => new_yes R' _ (hI'.alloc _) _ [1, 0] (FreeI.two hI' 1 0) 0 0 perm2 hok2)
  have H3 := Lib.hid (fun R' w' (hI' : Inv R' w') => new_yes R' _ (hI'.alloc _) _ [5, 2, 1, 4, 3, 0] (FreeI.six hI' 5 2 1 4 3 0) 0 0 perm6 hok3)
  have HA := Lib.hid (shape_of perm01 rfl (by decide) shape_a)
  have HB := Lib.hid (shape_of perm2 rfl (by decide) shape_b)
  have HC := Lib.hid (shape_of perm6 rfl (by decide) shape_c)
  have HE0 := Lib.hid ((Ev.refl hI).alloc (.cells #[.int .i64 0, .int .i64 1] 3))
  clear hI hok1 hok2 hok3
  go_enter Try.func24, Try.ntmps24
  go_wp2_with fail
  refine H1.out.mono ?_
  rintro e w1 ⟨p1, R1, rfl, he1, hp1⟩
  have HE1 := Lib.hid (HE0.out.trans he1)
  have HP1 := Lib.hid hp1
  clear he1 hp1
  go_wp2_with fail
  refine (H2.out R1 w1 HE1.out.inv).mono ?_
  rintro e w2 ⟨p2, R2, rfl, he2, hp2⟩
  have he12 := (((Ev.refl HE1.out.inv).alloc (.cells #[.int .i64 1, .int .i64 0] 3)).trans he2)
  have HE2 := Lib.hid (HE1.out.trans he12)
  have HQ1 := Lib.hid (he12.map HP1.out)
  have HP2 := Lib.hid hp2
  clear he2 hp2 he12 HP1
  go_wp2_with fail
  refine (H3.out R2 w2 HE2.out.inv).mono ?_
  rintro e w3 ⟨p3, R3, rfl, he3, hp3⟩
  have he23 := (((Ev.refl HE2.out.inv).alloc (.cells #[.int .i64 5, .int .i64 2, .int .i64 1, .int .i64 4, .int .i64 3, .int .i64 0] 3)).trans he3)
  have HE3 := Lib.hid (HE2.out.trans he23)
  have HS1 := Lib.hid (shape_any R3 w3 he23.inv p1 [0, 1] 0 0 (he23.map HQ1.out))
  have HS2 := Lib.hid (fun R' w' (he : Ev R3 w3 R' w') => shape_any R' w' he.inv p2 [1, 0] 0 0 (he.map (he23.map HP2.out)))
  have HS3 := Lib.hid (fun R' w' (he : Ev R3 w3 R' w') => shape_any R' w' he.inv p3 [5, 2, 1, 4, 3, 0] 0 0 (he.map hp3))
  rw [HA.out] at HS1
  rw [HB.out] at HS2
  rw [HC.out] at HS3
  clear he3 hp3 he23 HQ1 HP2
  go_wp2_with fail
  refine HS1.out.mono ?_
  rintro e w4 ⟨rfl, R4, he4⟩
  have HE4 := Lib.hid he4
  clear he4
  go_wp2_with fail
  refine (HS2.out _ _ HE4.out).mono ?_
  rintro e w5 ⟨rfl, R5, he5⟩
  have HE5 := Lib.hid (HE4.out.trans he5)
  clear he5
  go_wp2_with fail
  refine (HS3.out _ _ HE5.out).mono ?_
  rintro e w6 ⟨rfl, R6, he6⟩
  have HE6 := Lib.hid (HE3.out.trans (HE5.out.trans he6))
  clear he6
  go_wp2_with fail
  go_ret
  exact ⟨by simp, R6, HE6.out⟩

end Go.Proofs.Ytlbhmonpfchocaa

namespace Go.Proofs.Ytlbhmonpfchocaa
set_option linter.unusedVariables false

theorem con_all {s : List Nat} (hs : IsPerm s) (he : s.length % 2 = 0) (h1 : partsN s ≤ 1) {x y : Nat} (hx : x < s.length) (hy : y < s.length) : Con s x y := by
  have ho := partsL_ord hs he
  have hz : ∀ x, x < s.length → nth (partsL s) x = 0 := fun x hx => by
    have hb := ho.bound hx
    have hm := ho.mono (k := x + 1) (l := s.length) (by omega) (Nat.le_refl _)
    have hc : (partsGo s s.length).2 = partsN s := rfl
    simp only [hc] at hm
    omega
  exact (ho.rel _ _ hx hy).1 (by rw [hz x hx, hz y hy])
section
variable {s t : List Nat} (hs : IsPerm s) (he : s.length % 2 = 0) (ht : IsPerm t) (hl : t.length = s.length) (hm : Mates t) (h1 : partsN s ≤ 1)
include hs he ht hl hm h1
theorem can_one {r d : Nat} (hr : r < s.length) (hd : d < s.length) : at' (canL (relL s t) (at' t r)) (at' t d) = at' (canL s r) d := by
  have hp := relL_perm hs ht hl
  have hrl := relL_length s t
  have hlt : ∀ x, x < s.length → at' t x < s.length := fun x hx => by have := ht.lt (i := x) (by rw [hl]; exact hx); omega
  refine canL_rel hs he ht hl hm hr ?_ hd
  rw [rootsL_one hs he hr fun x hx => con_all hs he h1 hr hx, rootsL_one hp (by rw [hrl]; exact he) (by rw [hrl]; exact hlt r hr) fun x hx => con_all hp (by rw [hrl]; exact he) (by rw [rel_parts hs he ht hl hm]; exact h1) (by rw [hrl]; exact hlt r hr) hx]
  rfl
theorem relL_one {r : Nat} (hr : r < s.length) : relL (relL s t) (canL (relL s t) (at' t r)) = relL s (canL s r) := by
  have hp := relL_perm hs ht hl
  have hrl := relL_length s t
  have her : (relL s t).length % 2 = 0 := by rw [hrl]; exact he
  have hlt : ∀ x, x < s.length → at' t x < s.length := fun x hx => by have := ht.lt (i := x) (by rw [hl]; exact hx); omega
  have hcan := fun d hd => can_one hs he ht hl hm h1 (d := d) hr hd
  have hcp := canL_perm hs he hr
  have hcl : (canL s r).length = s.length := canP_length _ _
  have hcp2 := canL_perm hp her (root := at' t r) (by rw [hrl]; exact hlt r hr)
  have hcl2 : (canL (relL s t) (at' t r)).length = (relL s t).length := canP_length _ _
  obtain ⟨p, hpe⟩ : ∃ p, canL s r = p := ⟨_, rfl⟩
  obtain ⟨q, hqe⟩ : ∃ q, canL (relL s t) (at' t r) = q := ⟨_, rfl⟩
  rw [hpe] at hcan hcp hcl ⊢
  rw [hqe] at hcan hcp2 hcl2 ⊢
  refine eq_at (by rw [relL_length, relL_length, relL_length]) fun j hj => ?_
  rw [relL_length, hrl] at hj
  obtain ⟨d, hd, rfl⟩ := hcp.surj (y := j) (by rw [hcl]; exact hj)
  rw [hcl] at hd
  rw [relL_to hcp hcl hd, ← hcan d hd, relL_to hcp2 hcl2 (by rw [hrl]; exact hlt d hd), relL_to ht hl hd, hcan _ (hs.lt hd)]
/-- what is told of both -/
theorem once_all {r : Int} (hok : MapOk s r 0) : canM (relL s t) (atI t r) = canM s r ∧ canR (relL s t) (atI t r) = canR s r ∧ ∀ d, d < s.length → atI (canPm (relL s t) (atI t r)) ((at' t d : Nat) : Int) = atI (canPm s r) (d : Int) := by
  have hrl := relL_length s t
  by_cases h0 : s.length = 0
  · have hr : r = -1 := by have := hok.2.2.2.2; omega
    have e1 : relL s t = s := by
      have h2 : s = [] := List.eq_nil_of_length_eq_zero h0
      rw [h2]; rfl
    have e2 : atI t r = r := by rw [hr]; exact atI_out (Or.inl (by omega))
    rw [e1, e2]
    exact ⟨rfl, rfl, fun d hd => by omega⟩
  · obtain ⟨r0, rfl, hr⟩ : ∃ r0 : Nat, r = (r0 : Int) ∧ r0 < s.length := ⟨r.toNat, by have := hok.2.2.2.2; omega, by have := hok.2.2.2.2; omega⟩
    have hlt : ∀ x, x < s.length → at' t x < s.length := fun x hx => by have := ht.lt (i := x) (by rw [hl]; exact hx); omega
    rw [atI_in (by rw [hl]; exact hr)]
    refine ⟨?_, ?_, fun d hd => ?_⟩
    · unfold canM
      rw [hrl, if_neg h0, if_neg h0, Int.toNat_natCast, Int.toNat_natCast]
      exact relL_one hs he ht hl hm h1 hr
    · unfold canR
      rw [hrl, if_neg h0, if_neg h0]
    · unfold canPm
      rw [hrl, if_neg h0, if_neg h0, Int.toNat_natCast, Int.toNat_natCast]
      have hcl : (canL s r0).length = s.length := canP_length _ _
      have hcl2 : (canL (relL s t) (at' t r0)).length = s.length := by rw [show (canL (relL s t) (at' t r0)).length = (relL s t).length from canP_length _ _, hrl]
      rw [atI_in (by rw [hcl2]; exact hlt d hd), atI_in (by rw [hcl]; exact hd), can_one hs he ht hl hm h1 hr hd]
end

end Go.Proofs.Ytlbhmonpfchocaa

namespace Go.Proofs.Ytlbhmonpfchocaa
set_option linter.unusedVariables false

/-- names t take S to T, dart a to b -/
structure Iso (S T : List Nat) (a b : Nat) (t : List Nat) : Prop where
  perm : IsPerm t
  len : t.length = S.length
  mates : Mates t
  rel : relL S t = T
  root : at' t a = b
theorem Iso.turn {S T : List Nat} {a b : Nat} {t : List Nat} (h : Iso S T a b t) {x : Nat} (hx : x < S.length) : at' T (at' t x) = at' t (at' S x) := by
  rw [← h.rel]
  exact relL_to h.perm h.len hx
theorem rel_of {S T t : List Nat} (ht : IsPerm t) (hl : t.length = S.length) (hT : T.length = S.length) (h : ∀ x, x < S.length → at' T (at' t x) = at' t (at' S x)) : relL S t = T := by
  refine List.ext_getElem (by rw [relL_length, hT]) fun j h1 h2 => ?_
  rw [relL_length] at h1
  have hj := at_invL ht (y := j) (by rw [hl]; exact h1)
  have e1 := relL_at (s := S) (t := t) h1
  rw [← h _ (by rw [← hl]; exact hj.2), hj.1] at e1
  rw [at'_eq (by rw [relL_length]; exact h1), at'_eq h2] at e1
  exact e1

section
variable {S T : List Nat} (hs : IsPerm S) (he : S.length % 2 = 0) (ht : IsPerm T) (hT : T.length = S.length) {a b : Nat} (ha : a < S.length) (hb : b < S.length)
include hs he ht hT ha hb
/-- alike just if the canonical maps are the same -/
theorem can_iso (h1 : partsN S ≤ 1) : relL S (canL S a) = relL T (canL T b) ↔ ∃ t, Iso S T a b t := by
  have heT : T.length % 2 = 0 := by rw [hT]; exact he
  have hbT : b < T.length := by rw [hT]; exact hb
  constructor
  · intro h
    have p1 := canL_perm hs he ha
    have p2 : (canL S a).length = S.length := canP_length _ _
    have p3 := canL_mates hs he ha
    have p4 := canL_root hs he ha
    have q1 := canL_perm ht heT hbT
    have q2 : (canL T b).length = T.length := canP_length _ _
    have q3 := canL_mates ht heT hbT
    have q4 := canL_root ht heT hbT
    have r1 : ∀ x, x < S.length → at' (relL S (canL S a)) (at' (canL S a) x) = at' (canL S a) (at' S x) := fun x hx => relL_to p1 p2 hx
    have r2 : ∀ x, x < T.length → at' (relL T (canL T b)) (at' (canL T b) x) = at' (canL T b) (at' T x) := fun x hx => relL_to q1 q2 hx
    rw [← h] at r2
    obtain ⟨C, hC⟩ : ∃ C, relL S (canL S a) = C := ⟨_, rfl⟩
    obtain ⟨p, hp⟩ : ∃ p, canL S a = p := ⟨_, rfl⟩
    obtain ⟨q, hq⟩ : ∃ q, canL T b = q := ⟨_, rfl⟩
    rw [hp] at p1 p2 p3 p4
    rw [hq] at q1 q2 q3 q4
    rw [hC, hp] at r1
    rw [hC, hq] at r2
    clear hC hp hq h
    rw [hT] at q2 r2
    have iv : ∀ y, y < S.length → at' q (at' (invL q) y) = y ∧ at' (invL q) y < S.length := fun y hy => by
      have := at_invL q1 (y := y) (by rw [q2]; exact hy)
      rw [q2] at this
      exact this
    have pl : ∀ x, x < S.length → at' p x < S.length := fun x hx => by have := p1.lt (i := x) (by rw [p2]; exact hx); omega
    obtain ⟨t, hte⟩ : ∃ t, t = (List.range S.length).map fun x => at' (invL q) (at' p x) := ⟨_, rfl⟩
    have tl : t.length = S.length := by rw [hte]; simp
    have ta : ∀ x, x < S.length → at' t x = at' (invL q) (at' p x) := fun x hx => by rw [hte]; simp [at', hx]
    have tq : ∀ x, x < S.length → at' q (at' t x) = at' p x ∧ at' t x < S.length := fun x hx => by rw [ta x hx]; exact iv _ (pl x hx)
    have qi : ∀ x y, x < S.length → y < S.length → at' q x = at' q y → x = y := fun x y hx hy e => q1.inj (by rw [q2]; exact hx) (by rw [q2]; exact hy) e
    have tp : IsPerm t := IsPerm.of_inj (fun i hi => by rw [tl] at hi ⊢; exact (tq i hi).2) fun i j hi hj e => by
      rw [tl] at hi hj
      exact p1.inj (by rw [p2]; exact hi) (by rw [p2]; exact hj) (by rw [← (tq i hi).1, ← (tq j hj).1, e])
    have sl : ∀ x, x < S.length → at' S x < S.length := fun x hx => hs.lt hx
    have tT : ∀ x, x < S.length → at' T x < S.length := fun x hx => by have := ht.lt (i := x) (by rw [hT]; exact hx); omega
    refine ⟨t, tp, tl, fun d hd => ?_, rel_of tp tl hT fun x hx => ?_, ?_⟩
    · rw [tl] at hd
      have hd1 := xor_one_lt he hd
      refine qi _ _ (tq _ hd1).2 (xor_one_lt he (tq d hd).2) ?_
      rw [(tq _ hd1).1, q3 _ (by rw [q2]; exact (tq d hd).2), (tq d hd).1, p3 d (by rw [p2]; exact hd)]
    · refine qi _ _ (tT _ (tq x hx).2) (tq _ (sl x hx)).2 ?_
      rw [(tq _ (sl x hx)).1, ← r2 _ (tq x hx).2, (tq x hx).1, r1 x hx]
    · refine qi _ _ (tq a ha).2 hb ?_
      rw [(tq a ha).1, p4, q4]
  · rintro ⟨t, h⟩
    have := relL_one hs he h.perm h.len h.mates h1 ha
    rw [h.rel, h.root] at this
    exact this.symm
end

/-- what the followed way says of a dart -/
def lk : List (Nat × Nat) → Nat → Option Nat
  | [], _ => none
  | p :: P, x => if p.1 = x then some p.2 else lk P x
theorem lk_iff : ∀ {P : List (Nat × Nat)}, (P.map Prod.fst).Nodup → ∀ {x y}, lk P x = some y ↔ (x, y) ∈ P
  | [], _, x, y => by simp [lk]
  | p :: P, hn, x, y => by
    simp only [List.map_cons, List.nodup_cons] at hn
    have ih := lk_iff hn.2 (x := x) (y := y)
    unfold lk
    by_cases e : p.1 = x
    · rw [if_pos e]
      constructor
      · intro h; cases h; subst e; exact List.mem_cons_self
      · intro h
        rcases List.mem_cons.1 h with h | h
        · rw [← h]
        · exact absurd (List.mem_map.2 ⟨(x, y), h, e.symm⟩) hn.1
    · rw [if_neg e, ih]
      constructor
      · exact List.mem_cons_of_mem _
      · intro h
        rcases List.mem_cons.1 h with h | h
        · exact absurd (by rw [← h]) e
        · exact h
theorem lk_none : ∀ {P : List (Nat × Nat)} {x}, lk P x = none ↔ x ∉ P.map Prod.fst
  | [], x => by simp [lk]
  | p :: P, x => by
    unfold lk
    by_cases e : p.1 = x
    · rw [if_pos e]; simp [e]
    · rw [if_neg e, lk_none]
      simp only [List.map_cons, List.mem_cons, not_or]
      exact ⟨fun h => ⟨fun e' => e e'.symm, h⟩, fun h => h.2⟩
theorem lk_app : ∀ {P : List (Nat × Nat)} {x y z}, lk P x = none → lk (P ++ [(x, y)]) z = if z = x then some y else lk P z
  | [], x, y, z, _ => by
    simp only [List.nil_append, lk]
    by_cases e : z = x
    · rw [if_pos e, if_pos e.symm]
    · rw [if_neg e, if_neg (fun e' => e e'.symm)]
  | p :: P, x, y, z, h => by
    have hx : ¬ p.1 = x ∧ lk P x = none := by
      unfold lk at h
      by_cases e : p.1 = x
      · rw [if_pos e] at h; cases h
      · rw [if_neg e] at h; exact ⟨e, h⟩
    show (if p.1 = z then some p.2 else lk (P ++ [(x, y)]) z) = if z = x then some y else if p.1 = z then some p.2 else lk P z
    rw [lk_app hx.2]
    by_cases e : p.1 = z
    · rw [if_pos e, if_pos e, if_neg (fun e' => hx.1 (e.trans e'))]
    · rw [if_neg e, if_neg e]

structure TInv (S T : List Nat) (a b : Nat) (P : List (Nat × Nat)) : Prop where
  nd : (P.map Prod.fst).Nodup
  lt : ∀ p, p ∈ P → p.1 < S.length ∧ p.2 < S.length
  root : (a, b) ∈ P
  iso : ∀ t, Iso S T a b t → ∀ p, p ∈ P → at' t p.1 = p.2
section
variable {S T : List Nat} {a b : Nat} {P : List (Nat × Nat)}
theorem TInv.start (ha : a < S.length) (hb : b < S.length) : TInv S T a b [(a, b)] :=
  ⟨by simp, fun p hp => by rw [List.mem_singleton.1 hp]; exact ⟨ha, hb⟩, by simp, fun t h p hp => by rw [List.mem_singleton.1 hp]; exact h.root⟩
theorem TInv.length (h : TInv S T a b P) : P.length ≤ S.length := by
  have h1 : (P.map Prod.fst).length ≤ (List.range S.length).length := h.nd.length_le_of_subset fun x hx => by
    obtain ⟨p, hp, rfl⟩ := List.mem_map.1 hx
    exact List.mem_range.2 (h.lt p hp).1
  simpa using h1
theorem TInv.add (h : TInv S T a b P) {x y : Nat} (hx : x < S.length) (hy : y < S.length) (hxy : ∀ t, Iso S T a b t → at' t x = y) (hn : lk P x = none) : TInv S T a b (P ++ [(x, y)]) := by
  have hk := lk_none.1 hn
  refine ⟨?_, fun p hp => ?_, List.mem_append_left _ h.root, fun t ht p hp => ?_⟩
  · rw [List.map_append, List.nodup_append]
    refine ⟨h.nd, by simp, fun u hu v hv => ?_⟩
    simp at hv
    subst hv
    intro e
    exact hk (e ▸ hu)
  · rcases List.mem_append.1 hp with hp | hp
    · exact h.lt p hp
    · rw [List.mem_singleton.1 hp]; exact ⟨hx, hy⟩
  · rcases List.mem_append.1 hp with hp | hp
    · exact h.iso t ht p hp
    · rw [List.mem_singleton.1 hp]; exact hxy t ht
theorem TInv.clash (h : TInv S T a b P) {x y z : Nat} (hxy : ∀ t, Iso S T a b t → at' t x = y) (hz : lk P x = some z) (hne : z ≠ y) : ¬ ∃ t, Iso S T a b t := fun ⟨t, ht⟩ =>
  hne ((h.iso t ht _ ((lk_iff h.nd).1 hz)).symm.trans (hxy t ht))
def cntV (P : List (Nat × Nat)) (y : Nat) : Nat := (P.filter fun p => p.2 == y).length
theorem cntV_two {y : Nat} (h : cntV P y = 1) {p q : Nat × Nat} (hp : p ∈ P) (hq : q ∈ P) (ep : p.2 = y) (eq : q.2 = y) : p = q := by
  unfold cntV at h
  have m1 : p ∈ P.filter fun p => p.2 == y := List.mem_filter.2 ⟨hp, by simp [ep]⟩
  have m2 : q ∈ P.filter fun p => p.2 == y := List.mem_filter.2 ⟨hq, by simp [eq]⟩
  obtain ⟨r, hr⟩ := List.length_eq_one_iff.1 h
  rw [hr] at m1 m2
  rw [List.mem_singleton.1 m1, List.mem_singleton.1 m2]
theorem nodup_of_fst : ∀ {P : List (Nat × Nat)}, (P.map Prod.fst).Nodup → P.Nodup
  | [], _ => List.nodup_nil
  | p :: P, h => by
    simp only [List.map_cons, List.nodup_cons] at h
    exact List.nodup_cons.2 ⟨fun hp => h.1 (List.mem_map.2 ⟨p, hp, rfl⟩), nodup_of_fst h.2⟩
/-- the way, followed to its end -/
theorem TInv.fin (h : TInv S T a b P) (hs : IsPerm S) (he : S.length % 2 = 0) (hT : T.length = S.length) (ha : a < S.length) (h1 : partsN S ≤ 1)
    (hc : ∀ p, p ∈ P → (at' S p.1, at' T p.2) ∈ P ∧ (p.1 ^^^ 1, p.2 ^^^ 1) ∈ P) :
    ((∀ y, y < S.length → cntV P y = 1) ∧ P.length = S.length) ↔ ∃ t, Iso S T a b t := by
  constructor
  · rintro ⟨hv, hl⟩
    have hall : ∀ x, x < S.length → ∃ y, (x, y) ∈ P := fun x hx => by
      have h2 : (List.range S.length).length ≤ (P.map Prod.fst).length := by simp [hl]
      have h3 : x ∈ P.map Prod.fst := by
        refine Classical.byContradiction fun hno => ?_
        have h4 : (x :: P.map Prod.fst).length ≤ (List.range S.length).length := (List.nodup_cons.2 ⟨hno, h.nd⟩).length_le_of_subset fun z hz => by
          rcases List.mem_cons.1 hz with rfl | hz
          · exact List.mem_range.2 hx
          · obtain ⟨p, hp, rfl⟩ := List.mem_map.1 hz
            exact List.mem_range.2 (h.lt p hp).1
        simp [hl] at h4
        omega
      obtain ⟨p, hp, rfl⟩ := List.mem_map.1 h3
      exact ⟨p.2, hp⟩
    obtain ⟨t, hte⟩ : ∃ t, t = (List.range S.length).map fun x => (lk P x).getD 0 := ⟨_, rfl⟩
    have tl : t.length = S.length := by rw [hte]; simp
    have tm : ∀ x, x < S.length → (x, at' t x) ∈ P := fun x hx => by
      obtain ⟨y, hy⟩ := hall x hx
      have : at' t x = y := by
        rw [hte]
        simp [at', hx, (lk_iff h.nd).2 hy]
      rw [this]; exact hy
    have tu : ∀ x y, (x, y) ∈ P → at' t x = y := fun x y hy => by
      have hx := (h.lt _ hy).1
      have e1 := (lk_iff h.nd).2 hy
      have e2 := (lk_iff h.nd).2 (tm x hx)
      rw [e1] at e2
      injection e2 with e2
      exact e2.symm
    have tp : IsPerm t := IsPerm.of_inj (fun i hi => by rw [tl] at hi ⊢; exact (h.lt _ (tm i hi)).2) fun i j hi hj e => by
      rw [tl] at hi hj
      have := cntV_two (hv (at' t i) (h.lt _ (tm i hi)).2) (tm i hi) (tm j hj) rfl e.symm
      injection this
    refine ⟨t, tp, tl, fun d hd => ?_, rel_of tp tl hT fun x hx => ?_, tu a b h.root⟩
    · rw [tl] at hd
      exact tu _ _ (hc _ (tm d hd)).2
    · exact (tu _ _ (hc _ (tm x hx)).1).symm
  · rintro ⟨t, ht⟩
    have hD : Closed S (fun x => x < S.length ∧ x ∈ P.map Prod.fst) := by
      have f1 : ∀ x, x ∈ P.map Prod.fst → at' S x ∈ P.map Prod.fst := fun x hx => by
        obtain ⟨p, hp, rfl⟩ := List.mem_map.1 hx
        exact List.mem_map.2 ⟨_, (hc p hp).1, rfl⟩
      have f2 : ∀ x, x ∈ P.map Prod.fst → x ^^^ 1 ∈ P.map Prod.fst := fun x hx => by
        obtain ⟨p, hp, rfl⟩ := List.mem_map.1 hx
        exact List.mem_map.2 ⟨_, (hc p hp).2, rfl⟩
      refine ⟨fun x hx => ⟨fun hm => ⟨hx, ?_⟩, fun hm => ⟨hs.lt hx, f1 x hm.2⟩⟩, fun x hx => ⟨fun hm => ⟨hx, ?_⟩, fun hm => ⟨xor_one_lt he hx, f2 x hm.2⟩⟩⟩
      · have hcy : cyc S.length (at' S) x (at' S x) := hs.pm.step hx
        obtain ⟨_, _, j, hj⟩ := hs.pm.per.symm hcy
        have : ∀ j y, y ∈ P.map Prod.fst → itf (at' S) j y ∈ P.map Prod.fst := fun j => by
          induction j with
          | zero => exact fun y hy => hy
          | succ j ih => exact fun y hy => ih _ (f1 y hy)
        rw [← hj]
        exact this j _ hm.2
      · have := f2 _ hm.2
        rwa [xor_one_one] at this
    have hall : ∀ x, x < S.length → x ∈ P.map Prod.fst := fun x hx =>
      (hD.st hs he (k := S.length / 2) (by omega) ⟨ha, List.mem_map.2 ⟨_, h.root, rfl⟩⟩ (con_all hs he h1 ha hx)).2
    have hlen : P.length = S.length := by
      have h2 : (List.range S.length).length ≤ (P.map Prod.fst).length := List.nodup_range.length_le_of_subset fun x hx => hall x (List.mem_range.1 hx)
      have := h.length
      simp at h2
      omega
    refine ⟨fun y hy => ?_, hlen⟩
    obtain ⟨x, hx, hxy⟩ := ht.perm.surj (y := y) (by rw [ht.len]; exact hy)
    rw [ht.len] at hx
    obtain ⟨p, hp, hpx⟩ := List.mem_map.1 (hall x hx)
    have hpy : p.2 = y := by rw [← h.iso t ht p hp, hpx, hxy]
    have hle : cntV P y ≤ 1 := by
      unfold cntV
      have hnd : (P.filter fun p => p.2 == y).Nodup := (nodup_of_fst h.nd).filter _
      have hsub : (P.filter fun p => p.2 == y).length ≤ [p].length := hnd.length_le_of_subset fun q hq => by
        obtain ⟨hq1, hq2⟩ := List.mem_filter.1 hq
        have hqy : q.2 = y := by simpa using hq2
        have hqx : q.1 = x := ht.perm.inj (by rw [ht.len]; exact (h.lt q hq1).1) (by rw [ht.len]; exact hx) (by rw [h.iso t ht q hq1, hqy, hxy])
        have : q = p := Prod.ext (by rw [hqx, hpx]) (by rw [hqy, hpy])
        rw [this]; exact List.mem_singleton.2 rfl
      simpa using hsub
    have hge : 0 < cntV P y := List.length_pos_of_mem (List.mem_filter.2 ⟨hp, by simp [hpy]⟩)
    omega
end
end Go.Proofs.Ytlbhmonpfchocaa
