/- parquetrylaw10.DualCuts, the walk: it answers true. Conditions: the bytes lie in memory. -/
import Derived.Test.YtnbecpeiodcohaaZDualCuts23
import Derived.Test.YtnbecpeiodcohaaZDualCuts25
import Derived.Test.YtnbecpeiodcohaaZDualCuts28
import Derived.Test.YtnbecpeiodcohaaZDualCuts18
import Derived.BigQuiet
namespace Go.Proofs.Ytnbecpeiodcohaa
open Go.RowKit
set_option linter.unusedVariables false

theorem dof_out (R : Reg) (w : World) (hI : Inv R w) (p : Value) (s : List Nat) (root lone : Int) (hp : MapAt R p s root lone) (e : Int) (he : ¬ (0 ≤ e ∧ e < ((s.length / 2 : Nat) : Int))) :
    Calls Try.prog 94 #[p, .int .i64 e] w fun z w' => z = .returned (.tuple #[.pointer none, .int .i64 1]) ∧ w = w' := by
  have HEg := Lib.hid (edges_any R w hI p s root lone hp)
  obtain ⟨b, rfl, hb⟩ := hp
  obtain ⟨E, hE⟩ : ∃ E, s.length / 2 = E := ⟨_, rfl⟩
  rw [hE] at HEg he
  clear hI hb hE
  by_cases h0 : e < 0
  · go_enter Try.func94, Try.ntmps94
    go_wp2_with fail
    go_ret2
    exact ⟨rfl, rfl⟩
  · have h1 : (E : Int) ≤ e := by omega
    clear he
    go_enter Try.func94, Try.ntmps94
    go_wp2_with (first | (go_at_call 43; refine HEg.out.mono ?_; rintro z w' ⟨rfl, rfl⟩))
    all_goals (try go_ret2)
    all_goals exact ⟨rfl, rfl⟩
theorem dcut_out (R : Reg) (w : World) (hI : Inv R w) (p : Value) (s : List Nat) (root lone : Int) (hp : MapAt R p s root lone) (e : Int) (he : ¬ (0 ≤ e ∧ e < ((s.length / 2 : Nat) : Int))) :
    Calls Try.prog 47 #[p, .int .i64 e] w fun z w' => z = .returned (.tuple #[.pointer none, .int .i64 1]) ∧ w = w' := by
  have HO := Lib.hid (dof_out R w hI p s root lone hp e he)
  clear hI hp he
  go_enter Try.func47, Try.ntmps47
  go_wp2_with fail
  refine HO.out.mono ?_
  rintro e w' ⟨rfl, rfl⟩
  go_wp2_with fail
  go_ret2
  exact ⟨rfl, rfl⟩
theorem dshrink_out (R : Reg) (w : World) (hI : Inv R w) (p : Value) (s : List Nat) (root lone : Int) (hp : MapAt R p s root lone) (e : Int) (he : ¬ (0 ≤ e ∧ e < ((s.length / 2 : Nat) : Int))) :
    Calls Try.prog 46 #[p, .int .i64 e] w fun z w' => z = .returned (.tuple #[.pointer none, .int .i64 1]) ∧ w = w' := by
  have HO := Lib.hid (dof_out R w hI p s root lone hp e he)
  clear hI hp he
  go_enter Try.func46, Try.ntmps46
  go_wp2_with fail
  refine HO.out.mono ?_
  rintro e w' ⟨rfl, rfl⟩
  go_wp2_with fail
  go_ret2
  exact ⟨rfl, rfl⟩
set_option maxRecDepth 100000 in
set_option maxHeartbeats 1000000 in
theorem dshrink_loop (R : Reg) (w : World) (hI : Inv R w) (p : Value) (s : List Nat) (root lone : Int) (hp : MapAt R p s root lone) (e : Nat) (he : e < s.length / 2) (hnn : nth (namesL s) (2 * e) = nth (namesL s) (2 * e + 1)) :
    Calls Try.prog 46 #[p, .int .i64 (e : Int)] w fun z w' => z = .returned (.tuple #[.pointer none, .int .i64 8]) ∧ ∃ R', Ev R w R' w' := by
  obtain ⟨hS, hok⟩ := hp.ok hI
  have hn := hok.2.1
  have hev := hok.1
  have HOf := Lib.hid (dof_any R w hI p s root lone hp e he)
  have HVx := Lib.hid (fun R' w' (hee : Ev R w R' w') (d : Nat) (hd : d < s.length) => (by
    have := vertex_any R' w' hee.inv p s root lone (hee.map hp) (d : Int)
    rw [nameI_in hd] at this
    exact this : Calls Try.prog 28 #[p, .int .i64 (d : Int)] w' _))
  have hw2 : IntKind.i64.wrap (2 * (e : Int)) = ((2 * e : Nat) : Int) := by rw [show 2 * (e : Int) = ((2 * e : Nat) : Int) by omega]; exact IntWalk.i64_in _ (by omega)
  have hw3 : IntKind.i64.wrap (((2 * e : Nat) : Int) + 1) = ((2 * e + 1 : Nat) : Int) := by rw [show ((2 * e : Nat) : Int) + 1 = ((2 * e + 1 : Nat) : Int) by omega]; exact IntWalk.i64_in _ (by omega)
  obtain ⟨n0, hn0⟩ : ∃ x, nth (namesL s) (2 * e) = x := ⟨_, rfl⟩
  obtain ⟨n1, hn1⟩ : ∃ x, nth (namesL s) (2 * e + 1) = x := ⟨_, rfl⟩
  have HV0 := Lib.hid (fun R' w' (hee : Ev R w R' w') => HVx.out R' w' hee (2 * e) (by omega))
  have HV1 := Lib.hid (fun R' w' (hee : Ev R w R' w') => HVx.out R' w' hee (2 * e + 1) (by omega))
  rw [hn0] at HV0 hnn
  rw [hn1] at HV1 hnn
  have hbn : (n0 == n1) = true := by simp [hnn]
  clear hI hS hok hn0 hn1 HVx hp hnn
  go_enter Try.func46, Try.ntmps46
  go_wp2_with fail
  refine HOf.out.mono ?_
  rintro z w2 ⟨b, a, cap, rfl, he2, hls⟩
  have HE2 := Lib.hid he2
  clear he2 hls
  go_wp2_with fail
  refine (HV0.out _ _ HE2.out).mono ?_
  rintro z w4 ⟨rfl, R4, he4⟩
  have HE4 := Lib.hid (HE2.out.trans he4)
  clear he4
  go_wp2_with fail
  refine (HV1.out _ _ HE4.out).mono ?_
  rintro z w5 ⟨rfl, R5, he5⟩
  have HE5 := Lib.hid (HE4.out.trans he5)
  clear he5
  go_wp2_with fail
  go_ret2
  exact ⟨rfl, R5, HE5.out⟩

set_option maxRecDepth 100000 in
set_option maxHeartbeats 8000000 in
theorem dualCuts_walk (w : World) (n rt ln : Nat) (e : Int) (hn : n ≤ 255) (hr : rt ≤ 255) (hl : ln ≤ 255) (v : Value) (bs : List Nat) (hv : FreeB noReg w v bs) :
    Calls Try.prog 11 #[.int .u8 (n : Int), v, .int .u8 (rt : Int), .int .u8 (ln : Int), .int .i64 e] w (RetTrue noReg w) := by
  have HA := Lib.hid (awake10_any noReg w (Inv.noReg w))
  have hnot := not_run
  have HV := Lib.hid hv
  have hS := mixL_perm (2 * (n % 12)) bs
  have hSl := mixL_length (2 * (n % 12)) bs
  have hok0 := made_ok (n % 12) rt bs (ln % 3) (by omega) (by omega)
  have HM := Lib.hid (fun R w' (hI : Inv R w') (hv : FreeB R w' v bs) => made10_any R w' hI n rt ln hn hr hl v bs hv)
  obtain ⟨S, hSe⟩ : ∃ S, mixL (2 * (n % 12)) bs = S := ⟨_, rfl⟩
  obtain ⟨r, hre⟩ : ∃ r, anyRoot (n % 12) rt = r := ⟨_, rfl⟩
  obtain ⟨m, hm⟩ : ∃ m, 2 * (n % 12) = m := ⟨_, rfl⟩
  obtain ⟨ll, hll⟩ : ∃ m : Nat, ln % 3 = m := ⟨_, rfl⟩
  have hll3 : ll ≤ 2 := by omega
  have hm22 : m ≤ 22 := by omega
  have hev : m % 2 = 0 := by omega
  rw [hSe, hre, hll] at HM hok0
  rw [hSe, hm] at hSl
  rw [hSe] at hS
  rw [← hSl] at hev hm22
  obtain ⟨a0, c0, rfl, _⟩ := hv
  clear hSe hre hm hSl hll
  have HS := Lib.hid hS
  have HEv := Lib.hid hev
  have HOk := Lib.hid hok0
  clear hS hok0
  go_enter Try.func11, Try.ntmps11
  go_wp2_with fail
  refine HA.out.mono ?_
  rintro e w1 ⟨rfl, R1, he1⟩
  have HE1 := Lib.hid he1
  clear he1
  go_wp2_with fail
  refine (HM.out R1 w1 HE1.out.inv (HV.out.ev HE1.out)).mono ?_
  rintro e w2 ⟨p, a1, c1, R2, rfl, he2, hp2, hf2⟩
  unfold refV
  have hnone : R2 w2.heap.size = none := he2.inv.none_of_ge (Nat.le_refl _)
  have hI3 := he2.inv.alloc (.cells #[.slice a1 S.length c1, .int .i64 r, .int .i64 (ll : Int)] 27)
  have hf3 := hf2.ev ((Ev.refl he2.inv).alloc (.cells #[.slice a1 S.length c1, .int .i64 r, .int .i64 (ll : Int)] 27))
  have HE2 := Lib.hid (HE1.out.trans he2)
  have HP3 := Lib.hid hp2
  have HX := Lib.hid (fun R' w' (h : Ev R2 (w2.alloc (.cells #[.slice a1 S.length c1, .int .i64 r, .int .i64 (ll : Int)] 27)) R' w') => h.ref3 hnone)
  have HF3 := Lib.hid hf3
  have HI3 := Lib.hid hI3
  clear he2 hp2 hf2 hI3 hnone hf3
  go_upto_region 4 with fail
  obtain ⟨w3, hw3⟩ : ∃ w3, w3 = w2.alloc (.cells #[.slice a1 S.length c1, .int .i64 r, .int .i64 (ll : Int)] 27) := ⟨_, rfl⟩
  have HE3 : Hid (Ev noReg w R2 w3) := by rw [hw3]; exact HE2.out.alloc _
  rw [← hw3] at HX HF3 HI3 ⊢
  clear hw3 HE2
  have HEg := Lib.hid (fun R' w' (he : Ev R2 w3 R' w') => edges_any R' w' he.inv p S r ll (he.map HP3.out))
  by_cases hin : 0 ≤ e ∧ e < ((S.length / 2 : Nat) : Int)
  · obtain ⟨k, rfl⟩ : ∃ k : Nat, e = (k : Int) := ⟨e.toNat, by omega⟩
    have hkS : k < S.length / 2 := by omega
    have hk2 : 2 * k + 2 ≤ S.length := by omega
    have hr0 : 0 ≤ r ∧ r < S.length := by
      have := HOk.out.2.2.2.2
      omega
    obtain ⟨E, hE⟩ : ∃ E, S.length / 2 = E := ⟨_, rfl⟩
    have HEl := Lib.hid hE
    rw [hE] at HEg hkS hin
    have hb0 : ¬ (k : Int) < 0 := by omega
    have hb1 : ¬ (E : Int) ≤ (k : Int) := by omega
    have hwE : IntKind.i64.wrap ((E : Int) - 1) = ((E - 1 : Nat) : Int) := by rw [show (E : Int) - 1 = ((E - 1 : Nat) : Int) by omega]; exact IntWalk.i64_in _ (by omega)
    obtain ⟨E1, hE1⟩ : ∃ E1, E - 1 = E1 := ⟨_, rfl⟩
    rw [hE1] at hwE
    have HE1' := Lib.hid hE1
    have hcl := cutLone_le S k
    have hsl := shrLone_le S k
    obtain ⟨cl, hcle⟩ : ∃ x : Nat, cutLone S k = (x : Int) := ⟨(cutLone S k).toNat, by omega⟩
    obtain ⟨sl, hsle⟩ : ∃ x : Nat, shrLone S k = (x : Int) := ⟨(shrLone S k).toNat, by omega⟩
    have HCu := Lib.hid (cut_any R2 w3 HI3.out p S r ll HP3.out k (by rw [hE]; exact hkS) (by omega))
    have HRC := Lib.hid (fun R' w' (he : Ev R2 w3 R' w') => r10cut_any R' w' he.inv _ S r ll (HF3.out.ev he) HS.out (by omega) k hk2 hr0 (by omega))
    have hCv := cut_vertices HS.out hk2
    have hvle := sizesL_le HS.out
    rw [hcle] at HCu HRC hCv hcl
    rw [hsle] at hsl
    have HCe := Lib.hid hcle
    have HSe := Lib.hid hsle
    obtain ⟨lc, hlc⟩ : ∃ l : Nat, ll + cl = l := ⟨_, rfl⟩
    rw [show (ll : Int) + (cl : Int) = (lc : Int) by omega] at HCu HRC
    obtain ⟨D, hD⟩ : ∃ D, doneL S k = D := ⟨_, rfl⟩
    have hDl : D.length / 2 = E1 := by rw [← hD, doneL_length]; omega
    obtain ⟨rr, hrr⟩ : ∃ x, rootL S k r.toNat = x := ⟨_, rfl⟩
    rw [hD] at HCu HRC hCv
    rw [hrr] at HCu HRC
    have HDe := Lib.hid hD
    have HRe := Lib.hid hrr
    have HLc := Lib.hid hlc
    have HDl := Lib.hid hDl
    unfold refV at HRC
    clear hE hE1 hcle hsle hD hrr hDl
    by_cases hnn : nth (namesL S) (2 * k) = nth (namesL S) (2 * k + 1)
    · have HSh := Lib.hid (fun R' w' (he : Ev R2 w3 R' w') => dshrink_loop R' w' he.inv p S r ll (he.map HP3.out) k (by rw [HEl.out]; exact hkS) hnn)
      have HNn := Lib.hid hnn
      clear hnn
      go_wp2_with fail
      refine (HCu.out).mono ?_
      rintro z w4 ⟨c, R4, rfl, he4, hc4⟩
      have HE4 := Lib.hid he4
      have HC4 := Lib.hid hc4
      clear he4 hc4
      go_wp2_with fail
      refine (HSh.out _ _ HE4.out).mono ?_
      rintro z w5 ⟨rfl, R5, he5⟩
      have HE5 := Lib.hid (HE4.out.trans he5)
      have HC5 := Lib.hid (he5.map HC4.out)
      clear he5 HC4 HE4
      go_wp2_with fail
      refine (HEg.out _ _ HE5.out).mono ?_
      rintro z w' ⟨rfl, rfl⟩
      obtain ⟨x0, x1, x2⟩ := HX.out _ _ HE5.out
      obtain ⟨qc, rfl, hqc⟩ := HC5.out
      have HC5 : Hid (MapAt R5 (.pointer (some ⟨qc, 0, none⟩)) D rr lc) := Lib.hid ⟨qc, rfl, hqc⟩
      clear hqc
      go_wp2_with fail
      refine (HRC.out _ _ HE5.out).mono ?_
      rintro z w6 ⟨a6, c6, rfl, he6, ho6⟩
      have HE6 := Lib.hid (HE5.out.trans he6)
      have HC6 := Lib.hid (he6.map HC5.out)
      have HLk := Lib.hid (like_yes R5 w6 he6.inv _ _ D rr lc (he6.map HC5.out) ho6.free)
      unfold refV at HLk ⊢
      clear he6 ho6 HC5 HE5 x0 x1 x2
      go_wp2_with fail
      refine (HLk.out).mono ?_
      rintro z w7 ⟨rfl, he7⟩
      have HE7 := Lib.hid (HE6.out.trans he7)
      have HC7 := Lib.hid (he7.map HC6.out)
      clear he7 HC6 HE6 HLk
      have HEc := Lib.hid (edges_any R5 w7 HE7.out.inv _ D rr lc HC7.out)
      rw [HDl.out] at HEc
      go_wp2_with fail
      refine (HEc.out).mono ?_
      rintro z w' ⟨rfl, rfl⟩
      go_wp2_with fail
      refine (HEg.out _ _ HE7.out).mono ?_
      rintro z w' ⟨rfl, rfl⟩
      obtain ⟨x0, x1, x2⟩ := HX.out _ _ HE7.out
      have HNm := Lib.hid (rnames_any R5 w7 HE7.out.inv _ S (HF3.out.ev HE7.out) HS.out (by omega))
      go_wp2_with fail
      refine HNm.out.mono ?_
      rintro z w8 ⟨v8, rfl, he8, ho8⟩
      obtain ⟨a8, c8, rfl, _⟩ := ho8.ints.open
      have hnl := namesL_length S
      rw [hnl] at ho8 ⊢
      have HE8 := Lib.hid (HE7.out.trans he8)
      have HC8 := Lib.hid (he8.map HC7.out)
      obtain ⟨g8, rfl, _, _, k0, _⟩ := ho8.headAt hnl (i := 2 * k) (by omega)
      obtain ⟨_, e1, _, _, k1, _⟩ := ho8.headAt hnl (i := 2 * k + 1) (by omega)
      cases e1
      have HNl := Lib.hid hnl
      clear he8 ho8 hnl x0 x1 x2 HC7 HE7 HEc
      obtain ⟨n0, hn0⟩ : ∃ x, nth (namesL S) (2 * k) = x := ⟨_, rfl⟩
      obtain ⟨n1, hn1⟩ : ∃ x, nth (namesL S) (2 * k + 1) = x := ⟨_, rfl⟩
      have hnn := HNn.out
      rw [hn0] at k0 hnn
      rw [hn1] at k1 hnn
      obtain ⟨e0, he0⟩ : ∃ x, 2 * k = x := ⟨_, rfl⟩
      obtain ⟨e1, he1⟩ : ∃ x, e0 + 1 = x := ⟨_, rfl⟩
      have hw2 : IntKind.i64.wrap (2 * (k : Int)) = (e0 : Int) := by rw [show 2 * (k : Int) = (e0 : Int) by omega]; exact IntWalk.i64_in _ (by omega)
      have hw3 : IntKind.i64.wrap ((e0 : Int) + 1) = (e1 : Int) := by rw [show (e0 : Int) + 1 = (e1 : Int) by omega]; exact IntWalk.i64_in _ (by omega)
      rw [he0] at k0 k1
      rw [he1] at k1
      have hi0 : e0 < S.length := by omega
      have hi1 : e1 < S.length := by omega
      have hbn : (n0 == n1) = true := by simp [hnn]
      clear hn0 hn1 he0 he1 hnn
      go_wp2_with fail
      go_quiet (fail)
      obtain ⟨w9, hw9⟩ : ∃ x, x = w8.drewN nq := ⟨_, rfl⟩
      rw [← hw9]
      have HE9 : Hid (Ev R2 w3 R5 w9) := Lib.hid (by rw [hw9]; exact HE8.out.drewN nq)
      clear hw9 k0 k1 hbn HE8
      go_wp2_with fail
      go_ret
      exact ⟨by simp, R5, HE3.out.trans HE9.out⟩
    · have HSh := Lib.hid (fun R' w' (he : Ev R2 w3 R' w') => shrink_any R' w' he.inv p S r ll (he.map HP3.out) k (by rw [HEl.out]; exact hkS) (by omega) hnn)
      have HRS := Lib.hid (fun R' w' (he : Ev R2 w3 R' w') => r10shrink_any R' w' he.inv _ S r ll (HF3.out.ev he) HS.out (by omega) k hk2 hr0 (by omega) hnn)
      have hSv := shrink_vertices HS.out hk2 hnn
      have hSg := genusL_shrink HS.out HEv.out hk2 hnn
      rw [HSe.out] at HSh HRS hSv
      obtain ⟨ls, hls⟩ : ∃ l : Nat, ll + sl = l := ⟨_, rfl⟩
      rw [show (ll : Int) + (sl : Int) = (ls : Int) by omega, HRe.out] at HSh HRS
      obtain ⟨T, hT⟩ : ∃ T, doneL (exL S k) k = T := ⟨_, rfl⟩
      rw [hT] at HSh HRS hSv hSg
      unfold refV at HRS
      have HNn := Lib.hid hnn
      have HSv := Lib.hid hSv
      have HSg := Lib.hid hSg
      have HLs := Lib.hid hls
      clear hnn hT hSv hSg hls
      go_wp2_with fail
      refine (HCu.out).mono ?_
      rintro z w4 ⟨c, R4, rfl, he4, hc4⟩
      have HE4 := Lib.hid he4
      have HC4 := Lib.hid hc4
      clear he4 hc4
      go_wp2_with fail
      refine (HSh.out _ _ HE4.out).mono ?_
      rintro z w5 ⟨q, R5, rfl, he5, hq5⟩
      have HE5 := Lib.hid (HE4.out.trans he5)
      have HC5 := Lib.hid (he5.map HC4.out)
      have HQ5 := Lib.hid hq5
      clear he5 hq5 HC4 HE4
      go_wp2_with fail
      refine (HEg.out _ _ HE5.out).mono ?_
      rintro z w' ⟨rfl, rfl⟩
      obtain ⟨x0, x1, x2⟩ := HX.out _ _ HE5.out
      obtain ⟨qc, rfl, hqc⟩ := HC5.out
      have HC5 : Hid (MapAt R5 (.pointer (some ⟨qc, 0, none⟩)) D rr lc) := Lib.hid ⟨qc, rfl, hqc⟩
      clear hqc
      go_wp2_with fail
      refine (HRC.out _ _ HE5.out).mono ?_
      rintro z w6 ⟨a6, c6, rfl, he6, ho6⟩
      have HE6 := Lib.hid (HE5.out.trans he6)
      have HC6 := Lib.hid (he6.map HC5.out)
      have HLk := Lib.hid (like_yes R5 w6 he6.inv _ _ D rr lc (he6.map HC5.out) ho6.free)
      have HQ6 := Lib.hid (he6.map HQ5.out)
      unfold refV at HLk ⊢
      clear he6 ho6 HC5 HE5 x0 x1 x2
      go_wp2_with fail
      refine (HLk.out).mono ?_
      rintro z w7 ⟨rfl, he7⟩
      have HE7 := Lib.hid (HE6.out.trans he7)
      have HC7 := Lib.hid (he7.map HC6.out)
      have HQ7 := Lib.hid (he7.map HQ6.out)
      clear he7 HC6 HE6 HLk
      have HEc := Lib.hid (edges_any R5 w7 HE7.out.inv _ D rr lc HC7.out)
      rw [HDl.out] at HEc
      go_wp2_with fail
      refine (HEc.out).mono ?_
      rintro z w' ⟨rfl, rfl⟩
      go_wp2_with fail
      refine (HEg.out _ _ HE7.out).mono ?_
      rintro z w' ⟨rfl, rfl⟩
      obtain ⟨x0, x1, x2⟩ := HX.out _ _ HE7.out
      have HNm := Lib.hid (rnames_any R5 w7 HE7.out.inv _ S (HF3.out.ev HE7.out) HS.out (by omega))
      go_wp2_with fail
      refine HNm.out.mono ?_
      rintro z w8 ⟨v8, rfl, he8, ho8⟩
      obtain ⟨a8, c8, rfl, _⟩ := ho8.ints.open
      have hnl := namesL_length S
      rw [hnl] at ho8 ⊢
      have HE8 := Lib.hid (HE7.out.trans he8)
      have HC8 := Lib.hid (he8.map HC7.out)
      have HQ8 := Lib.hid (he8.map HQ7.out)
      obtain ⟨g8, rfl, _, _, k0, _⟩ := ho8.headAt hnl (i := 2 * k) (by omega)
      obtain ⟨_, e1, _, _, k1, _⟩ := ho8.headAt hnl (i := 2 * k + 1) (by omega)
      cases e1
      have HNl := Lib.hid hnl
      clear he8 ho8 hnl x0 x1 x2 HC7 HE7 HEc
      obtain ⟨n0, hn0⟩ : ∃ x, nth (namesL S) (2 * k) = x := ⟨_, rfl⟩
      obtain ⟨n1, hn1⟩ : ∃ x, nth (namesL S) (2 * k + 1) = x := ⟨_, rfl⟩
      have hnn := HNn.out
      rw [hn0] at k0 hnn
      rw [hn1] at k1 hnn
      obtain ⟨e0, he0⟩ : ∃ x, 2 * k = x := ⟨_, rfl⟩
      obtain ⟨e1, he1⟩ : ∃ x, e0 + 1 = x := ⟨_, rfl⟩
      have hw2 : IntKind.i64.wrap (2 * (k : Int)) = (e0 : Int) := by rw [show 2 * (k : Int) = (e0 : Int) by omega]; exact IntWalk.i64_in _ (by omega)
      have hw3 : IntKind.i64.wrap ((e0 : Int) + 1) = (e1 : Int) := by rw [show (e0 : Int) + 1 = (e1 : Int) by omega]; exact IntWalk.i64_in _ (by omega)
      rw [he0] at k0 k1
      rw [he1] at k1
      have hi0 : e0 < S.length := by omega
      have hi1 : e1 < S.length := by omega
      have hbn : (n0 == n1) = false := by simp [hnn]
      clear hn0 hn1 he0 he1 hnn
      go_wp2_with fail
      go_quiet (fail)
      obtain ⟨w9, hw9⟩ : ∃ x, x = w8.drewN nq := ⟨_, rfl⟩
      rw [← hw9]
      have HE9 : Hid (Ev R2 w3 R5 w9) := Lib.hid (by rw [hw9]; exact HE8.out.drewN nq)
      clear hw9 k0 k1 hbn HE8
      obtain ⟨x0, x1, x2⟩ := HX.out _ _ HE9.out
      go_wp2_with fail
      refine (HRS.out _ _ HE9.out).mono ?_
      rintro z wA ⟨aA, cA, rfl, heA, hoA⟩
      have HEA := Lib.hid (HE9.out.trans heA)
      have HCA := Lib.hid (heA.map HC8.out)
      have HQA := Lib.hid (heA.map HQ8.out)
      have HLk := Lib.hid (like_yes R5 wA heA.inv _ _ T rr ls HQA.out hoA.free)
      unfold refV at HLk ⊢
      clear heA hoA HC8 HQ8 HE9 x0 x1 x2
      go_wp2_with fail
      refine (HLk.out).mono ?_
      rintro z wB ⟨rfl, heB⟩
      have HEB := Lib.hid (HEA.out.trans heB)
      have HCB := Lib.hid (heB.map HCA.out)
      have HQB := Lib.hid (heB.map HQA.out)
      have hv1 := vertices_any R5 wB HEB.out.inv _ T rr ls HQB.out
      obtain ⟨V, hV⟩ : ∃ V : Nat, (((sizesL S).length : Nat) : Int) + (ll : Int) = (V : Int) := ⟨(sizesL S).length + ll, by omega⟩
      have HV := Lib.hid hV
      have hV1 : 1 ≤ V ∧ V ≤ 1000000 := by have := HSv.out; omega
      obtain ⟨V1, hVV⟩ : ∃ V1, V - 1 = V1 := ⟨_, rfl⟩
      rw [show (((sizesL T).length : Nat) : Int) + (ls : Int) = (V1 : Int) by have := HSv.out; have := HLs.out; omega] at hv1
      have hwV : IntKind.i64.wrap ((V : Int) - 1) = (V1 : Int) := by rw [show (V : Int) - 1 = (V1 : Int) by omega]; exact IntWalk.i64_in _ (by omega)
      have HV1 := Lib.hid hv1
      clear heB HCA HQA HEA HLk hv1 hV hVV hV1
      go_wp2_with fail
      refine (HV1.out).mono ?_
      rintro z wC ⟨rfl, RC, heC⟩
      have HEC := Lib.hid (HEB.out.trans heC)
      have HCC := Lib.hid (heC.map HCB.out)
      have HQC := Lib.hid (heC.map HQB.out)
      have hv1 := vertices_any RC wC HEC.out.inv _ S r ll (HEC.out.map HP3.out)
      rw [HV.out] at hv1
      have HV2 := Lib.hid hv1
      clear heC HCB HQB HEB HV1 hv1
      go_wp2_with fail
      refine (HV2.out).mono ?_
      rintro z wD ⟨rfl, RD, heD⟩
      have HED := Lib.hid (HEC.out.trans heD)
      have HCD := Lib.hid (heD.map HCC.out)
      have HQD := Lib.hid (heD.map HQC.out)
      have hg1 := egenus_any RD wD HED.out.inv _ T rr ls HQD.out
      rw [HSg.out] at hg1
      obtain ⟨gg, hgg⟩ : ∃ g, genusL S = g := ⟨_, rfl⟩
      rw [hgg] at hg1
      have HGg := Lib.hid hgg
      have HG1 := Lib.hid hg1
      clear heD HCC HQC HEC HV2 hg1 hgg
      go_wp2_with fail
      refine (HG1.out).mono ?_
      rintro z wE ⟨rfl, RE, heE⟩
      have HEE := Lib.hid (HED.out.trans heE)
      have HCE := Lib.hid (heE.map HCD.out)
      have hg1 := egenus_any RE wE HEE.out.inv _ S r ll (HEE.out.map HP3.out)
      rw [HGg.out] at hg1
      have HG2 := Lib.hid hg1
      clear heE HCD HQD HED HG1 hg1
      go_wp2_with fail
      refine (HG2.out).mono ?_
      rintro z wF ⟨rfl, RF, heF⟩
      have HEF := Lib.hid (HEE.out.trans heF)
      have HCF := Lib.hid (heF.map HCE.out)
      have hv1 := vertices_any RF wF HEF.out.inv _ D rr lc HCF.out
      rw [show (((sizesL D).length : Nat) : Int) + (lc : Int) = (V : Int) by have := HV.out; have := HLc.out; omega] at hv1
      have HV3 := Lib.hid hv1
      clear heF HCE HEE HG2 hv1
      go_wp2_with fail
      refine (HV3.out).mono ?_
      rintro z wG ⟨rfl, RG, heG⟩
      have HEG := Lib.hid (HEF.out.trans heG)
      have hv1 := vertices_any RG wG HEG.out.inv _ S r ll (HEG.out.map HP3.out)
      rw [HV.out] at hv1
      have HV4 := Lib.hid hv1
      clear heG HCF HEF HV3 hv1
      go_wp2_with fail
      refine (HV4.out).mono ?_
      rintro z wH ⟨rfl, RH, heH⟩
      have HEH := Lib.hid (HEG.out.trans heH)
      clear heH HEG HV4
      go_wp2_with fail
      go_ret
      exact ⟨by simp, RH, HE3.out.trans HEH.out⟩
  · have HCo := Lib.hid (dcut_out R2 w3 HI3.out p S r ll HP3.out e hin)
    have HSo := Lib.hid (dshrink_out R2 w3 HI3.out p S r ll HP3.out e hin)
    obtain ⟨E, hE⟩ : ∃ E, S.length / 2 = E := ⟨_, rfl⟩
    rw [hE] at HEg hin
    go_wp2_with fail
    refine HCo.out.mono ?_
    rintro z w' ⟨rfl, rfl⟩
    go_wp2_with fail
    refine HSo.out.mono ?_
    rintro z w' ⟨rfl, rfl⟩
    by_cases h0 : e < 0
    · go_wp2_with fail
      go_ret
      exact ⟨by simp, R2, HE3.out⟩
    · have h1 : (E : Int) ≤ e := by omega
      clear hin
      go_wp2_with fail
      refine (HEg.out _ _ (Ev.refl HI3.out)).mono ?_
      rintro z w' ⟨rfl, rfl⟩
      go_wp2_with fail
      go_ret
      exact ⟨by simp, R2, HE3.out⟩

end Go.Proofs.Ytnbecpeiodcohaa
