/- parquetrylaw06.DartRoots, the walk: it answers true. Conditions: the bytes lie in memory. -/
import Derived.Test.YtedocjhbmhllcaaLaw6P
namespace Go.Proofs.Ytedocjhbmhllcaa
open Go.RowKit
set_option linter.unusedVariables false

set_option maxHeartbeats 1000000 in
theorem same_none (R : Reg) (w : World) (hI : Inv R w) (p : Value) (s : List Nat) (root lone : Int) (hp : MapAt R p s root lone) :
    Calls Try.prog 35 #[p, .pointer none] w fun e w' => e = .returned (.bool false) ∧ Ev R w R w' := by
  obtain ⟨b, rfl, hb⟩ := hp
  have HI := Lib.hid hI
  clear hI hb
  go_enter Try.func35, Try.ntmps35
  go_wp2_with fail
  go_ret
  exact ⟨rfl, Ev.refl HI.out⟩

set_option maxHeartbeats 1000000 in
theorem none_none (R : Reg) (w : World) (hI : Inv R w) :
    Calls Try.prog 35 #[.pointer none, .pointer none] w fun e w' => e = .returned (.bool true) ∧ Ev R w R w' := by
  have HI := Lib.hid hI
  clear hI
  go_enter Try.func35, Try.ntmps35
  go_wp2_with fail
  go_ret
  exact ⟨rfl, Ev.refl HI.out⟩

theorem sameB_symm (s t : List Nat) (r1 r2 l1 l2 : Int) : sameB t s r2 r1 l2 l1 = sameB s t r1 r2 l1 l2 := by
  unfold sameB
  have : (t = s ∧ r2 = r1 ∧ l2 = l1) ↔ (s = t ∧ r1 = r2 ∧ l1 = l2) := ⟨fun ⟨a, b, c⟩ => ⟨a.symm, b.symm, c.symm⟩, fun ⟨a, b, c⟩ => ⟨a.symm, b.symm, c.symm⟩⟩
  simp only [this]

set_option maxRecDepth 100000 in
set_option maxHeartbeats 8000000 in
theorem dartRoots_walk (w : World) (n rt ln : Nat) (d : Int) (k rt2 ln2 : Nat) (hn : n ≤ 255) (hr : rt ≤ 255) (hl : ln ≤ 255) (hk : k ≤ 255) (hr2 : rt2 ≤ 255) (hl2 : ln2 ≤ 255) (v : Value) (bs : List Nat) (hv : FreeB noReg w v bs) (v' : Value) (bs' : List Nat) (hv' : FreeB noReg w v' bs') :
    Calls Try.prog 5 #[.int .u8 (n : Int), v, .int .u8 (rt : Int), .int .u8 (ln : Int), .int .i64 d, .int .u8 (k : Int), v', .int .u8 (rt2 : Int), .int .u8 (ln2 : Int)] w (RetTrue noReg w) := by
  have HA := Lib.hid (awake6_any noReg w (Inv.noReg w))
  have hnot := not_run
  have HV := Lib.hid hv
  have HV2 := Lib.hid hv'
  have hS := mixL_perm (2 * (n % 10)) bs
  have hSl := mixL_length (2 * (n % 10)) bs
  have hT := mixL_perm (2 * (k % 10)) bs'
  have hTl := mixL_length (2 * (k % 10)) bs'
  have hro := anyRoot_ok (n := n % 10) (r := rt)
  have HM := Lib.hid (fun R w' (hI : Inv R w') (hv : FreeB R w' v bs) => made_any R w' hI n rt ln hn hr hl v bs hv)
  have HM2 := Lib.hid (fun R w' (hI : Inv R w') (hv : FreeB R w' v' bs') => made_any R w' hI k rt2 ln2 hk hr2 hl2 v' bs' hv)
  obtain ⟨S, hSe⟩ : ∃ S, mixL (2 * (n % 10)) bs = S := ⟨_, rfl⟩
  obtain ⟨r, hre⟩ : ∃ r, anyRoot (n % 10) rt = r := ⟨_, rfl⟩
  obtain ⟨lo, hlo⟩ : ∃ lo : Int, ((ln % 5 : Nat) : Int) = lo := ⟨_, rfl⟩
  obtain ⟨T, hTe⟩ : ∃ S, mixL (2 * (k % 10)) bs' = S := ⟨_, rfl⟩
  obtain ⟨r2, hre2⟩ : ∃ r, anyRoot (k % 10) rt2 = r := ⟨_, rfl⟩
  obtain ⟨lo2, hlo2⟩ : ∃ lo : Int, ((ln2 % 5 : Nat) : Int) = lo := ⟨_, rfl⟩
  rw [hSe, hre, hlo] at HM
  rw [hTe, hre2, hlo2] at HM2
  rw [hSe] at hS hSl
  rw [hTe] at hT hTl
  rw [hre, ← hSl] at hro
  have hS18 : S.length ≤ 18 := by omega
  have hT18 : T.length ≤ 18 := by omega
  have HSL := Lib.hid hS18
  have HTL := Lib.hid hT18
  have HRO := Lib.hid hro
  obtain ⟨a0, c0, rfl, _⟩ := hv
  obtain ⟨a0', c0', rfl, _⟩ := hv'
  clear hSe hre hlo hTe hre2 hlo2 hS hSl hT hTl hS18 hT18 hro
  go_enter Try.func5, Try.ntmps5
  go_wp2_with fail
  refine HA.out.mono ?_
  rintro e w1 ⟨rfl, R1, he1⟩
  have HE1 := Lib.hid he1
  clear he1
  go_wp2_with fail
  refine (HM.out R1 w1 HE1.out.inv (HV.out.ev HE1.out)).mono ?_
  rintro e w2 ⟨p, a1, c1, R2, rfl, he2, hp2, hf2⟩
  unfold refV
  have hnone : R2 w2.heap.size = none := he2.inv.none_of_ge (Nat.le_refl _)
  have hI3 := he2.inv.alloc (.cells #[.slice a1 S.length c1, .int .i64 r, .int .i64 lo] 27)
  have HE2 := Lib.hid (HE1.out.trans he2)
  have HP3 := Lib.hid hp2
  have hf3 := hf2.ev ((Ev.refl he2.inv).alloc (.cells #[.slice a1 S.length c1, .int .i64 r, .int .i64 lo] 27))
  have HF3 := Lib.hid hf3
  have HI3 := Lib.hid hI3
  have HX := Lib.hid (fun R' w' (h : Ev R2 (w2.alloc (.cells #[.slice a1 S.length c1, .int .i64 r, .int .i64 lo] 27)) R' w') => h.ref3 hnone)
  clear he2 hp2 hf2 hI3 hf3 hnone
  go_wp2_with fail
  obtain ⟨w3, hw3⟩ : ∃ w3, w3 = w2.alloc (.cells #[.slice a1 S.length c1, .int .i64 r, .int .i64 lo] 27) := ⟨_, rfl⟩
  have HE3 : Hid (Ev noReg w R2 w3) := by rw [hw3]; exact HE2.out.alloc _
  have HX3 : Hid (∀ R' w', Ev R2 w3 R' w' → w'.cell? ⟨w2.heap.size, 0, none⟩ = some (.slice a1 S.length c1) ∧ w'.cell? ⟨w2.heap.size, 1, none⟩ = some (.int .i64 r) ∧ w'.cell? ⟨w2.heap.size, 2, none⟩ = some (.int .i64 lo)) := by rw [hw3]; exact HX.out
  have hb2 : w2.heap.size < w3.heap.size := by rw [hw3]; simp
  rw [← hw3] at HF3 HI3 ⊢
  clear hw3 HX
  refine (HM2.out R2 w3 HI3.out (HV2.out.ev HE3.out)).mono ?_
  rintro e w4 ⟨p2, a2, c2, R4, rfl, he4, hp4, hf4⟩
  unfold refV
  have hnone : R4 w4.heap.size = none := he4.inv.none_of_ge (Nat.le_refl _)
  have hI5 := he4.inv.alloc (.cells #[.slice a2 T.length c2, .int .i64 r2, .int .i64 lo2] 27)
  have HE4 := Lib.hid he4
  have HP5 := Lib.hid hp4
  have hf5 := hf4.ev ((Ev.refl he4.inv).alloc (.cells #[.slice a2 T.length c2, .int .i64 r2, .int .i64 lo2] 27))
  have HF5 := Lib.hid hf5
  have HI5 := Lib.hid hI5
  have he5 : Ev R2 w3 R4 (w4.alloc (.cells #[.slice a2 T.length c2, .int .i64 r2, .int .i64 lo2] 27)) := he4.alloc _
  have HE5 := Lib.hid he5
  have HX5 := Lib.hid (fun R' w' (h : Ev R4 (w4.alloc (.cells #[.slice a2 T.length c2, .int .i64 r2, .int .i64 lo2] 27)) R' w') => h.ref3 hnone)
  have HP4 := Lib.hid (he5.map HP3.out)
  have HF4 := Lib.hid (HF3.out.ev he5)
  have hz4 : w3.heap.size ≤ w4.heap.size := he4.size
  have hb4 : w2.heap.size < w4.heap.size := by omega
  clear he4 hp4 hf4 hI5 hf5 hnone he5
  obtain ⟨x0, x1, x2⟩ := HX3.out _ _ HE4.out
  obtain ⟨w5, hw5⟩ : ∃ w5, w5 = w4.alloc (.cells #[.slice a2 T.length c2, .int .i64 r2, .int .i64 lo2] 27) := ⟨_, rfl⟩
  rw [← hw5] at HF5 HI5 HE5 HX5 HF4
  have HW5 := Lib.hid hw5
  clear hw5
  obtain ⟨x0', x1', x2'⟩ := HX3.out _ _ HE5.out
  obtain ⟨z0, z1, z2⟩ := HX5.out _ _ (Ev.refl HI5.out)
  rw [HW5.out] at x0' x1' x2' z0 z1 z2
  obtain ⟨sb, hsb⟩ : ∃ sb, sameB S T r r2 lo lo2 = sb := ⟨_, rfl⟩
  have k1 := fun w' (he : Ev R4 w5 R4 w') => msame_any R4 w' he.inv p p2 S T r r2 lo lo2 (he.map HP4.out) (he.map HP5.out)
  have k2 := fun w' (he : Ev R4 w5 R4 w') => msame_any R4 w' he.inv p2 p T S r2 r lo2 lo (he.map HP5.out) (he.map HP4.out)
  rw [sameB_symm] at k2
  rw [hsb] at k1 k2
  have K1 := Lib.hid k1
  have K2 := Lib.hid k2
  have K3 := Lib.hid (fun w' (he : Ev R4 w5 R4 w') => same_none R4 w' he.inv p S r lo (he.map HP4.out))
  have K4 := Lib.hid (fun w' (he : Ev R4 w5 R4 w') => none_none R4 w' he.inv)
  have K5 := Lib.hid (fun w' (he : Ev R4 w5 R4 w') => rooted_any R4 w' he.inv p S r lo (he.map HP4.out) d)
  have K6 := Lib.hid (equal_any R4 w5 HI5.out _ _ _ _ HF4.out.1 HF5.out.1 (by rw [toI_length]; have := HSL.out; omega) (by rw [toI_length]; have := HTL.out; omega))
  clear k1 k2
  have hcase : (eqL (toI S) (toI T) = false ∧ sb = false) ∨ (eqL (toI S) (toI T) = true ∧ (r == r2) = false ∧ sb = false) ∨ (eqL (toI S) (toI T) = true ∧ (r == r2) = true ∧ (lo == lo2) = false ∧ sb = false) ∨ (eqL (toI S) (toI T) = true ∧ (r == r2) = true ∧ (lo == lo2) = true ∧ sb = true) := by
    rw [← hsb]
    unfold sameB
    by_cases h1 : S = T
    · rw [eqL_true (show toI S = toI T by rw [h1])]
      by_cases h2 : r = r2
      · by_cases h3 : lo = lo2
        · simp [h1, h2, h3]
        · simp [h1, h2, h3]
      · simp [h1, h2]
    · rw [eqL_false (fun h => h1 (toI_inj h))]
      simp [h1]
  clear hsb
  go_wp2_with fail
  rw [← HW5.out]
  refine K6.out.mono ?_
  rintro e w6 ⟨rfl, he6⟩
  have HE6 := Lib.hid he6
  clear x0 x1 x2 x0' x1' x2' z0 z1 z2 he6
  obtain ⟨x0, x1, x2⟩ := HX3.out _ _ (HE5.out.trans HE6.out)
  obtain ⟨z0, z1, z2⟩ := HX5.out _ _ HE6.out
  rcases hcase with ⟨e1, rfl⟩ | ⟨e1, g2, rfl⟩ | ⟨e1, g2, g3, rfl⟩ | ⟨e1, g2, g3, rfl⟩
  all_goals rw [e1]
  all_goals go_wp2_with fail
  all_goals
    refine (K1.out _ HE6.out).mono ?_
    rintro e w7 ⟨rfl, he7⟩
    have HE7 := Lib.hid (HE6.out.trans he7)
    clear he7 x0 x1 x2 z0 z1 z2
    go_wp2_with fail
    refine (K2.out _ HE7.out).mono ?_
    rintro e w8 ⟨rfl, he8⟩
    have HE8 := Lib.hid (HE7.out.trans he8)
    clear he8
    go_wp2_with fail
    refine (K3.out _ HE8.out).mono ?_
    rintro e w9 ⟨rfl, he9⟩
    have HE9 := Lib.hid (HE8.out.trans he9)
    clear he9
    go_wp2_with fail
    refine (K4.out _ HE9.out).mono ?_
    rintro e wa ⟨rfl, hea⟩
    have HEa := Lib.hid (HE9.out.trans hea)
    clear hea
    go_wp2_with fail
    refine (K5.out _ HEa.out).mono ?_
    rintro e wb hpost
    have HPO := Lib.hid hpost
    clear hpost
    rcases HPO.out with ⟨hd, rfl, Rq, heb⟩ | ⟨h0, h1, q, Rq, rfl, heb, hq⟩
    · have HEb := Lib.hid (HE5.out.trans (HEa.out.trans heb))
      obtain ⟨x0, x1, x2⟩ := HX3.out _ _ HEb.out
      clear heb HPO
      by_cases hneg : d < 0
      · have t1 : decide (d < 0) = true := decide_eq_true hneg
        clear hd hneg
        go_wp2_with fail
        go_ret
        exact ⟨rfl, _, HE3.out.trans HEb.out⟩
      · have t1 : decide (d < 0) = false := decide_eq_false hneg
        have t2 : decide ((S.length : Int) ≤ d) = true := decide_eq_true (by omega)
        clear hd hneg
        go_wp2_with fail
        go_ret
        exact ⟨rfl, _, HE3.out.trans HEb.out⟩
    · have HEb := Lib.hid (HE5.out.trans (HEa.out.trans heb))
      have HQ := Lib.hid hq
      have HPb := Lib.hid ((HEa.out.trans heb).map HP4.out)
      have t1 : decide (d < 0) = false := decide_eq_false (by omega)
      have t2 : decide ((S.length : Int) ≤ d) = false := decide_eq_false (by omega)
      have hro : 0 ≤ r ∧ r < S.length := by have := HRO.out; omega
      have HR := Lib.hid hro
      obtain ⟨x0, x1, x2⟩ := HX3.out _ _ HEb.out
      clear heb HPO hq h0 h1 hro
      go_wp2_with fail
      refine (rooted_any Rq wb HEb.out.inv q S d lo HQ.out r).mono ?_
      rintro e wc hpost
      have HPO := Lib.hid hpost
      clear hpost
      rcases HPO.out with ⟨hd, rfl, Rx, heb⟩ | ⟨_, _, b, Rb, rfl, heb, hq⟩
      · exact absurd HR.out (by omega)
      · have HEc0 := Lib.hid (HEb.out.trans heb)
        have HB := Lib.hid hq
        have HQc := Lib.hid (heb.map HQ.out)
        have HPc := Lib.hid (heb.map HPb.out)
        have HFc := Lib.hid (HF3.out.ev HEc0.out)
        clear heb hq HPO x0 x1 x2
        have j1 := fun w' (he : Ev Rb wc Rb w') => root_any Rb w' he.inv q S d lo (he.map HQc.out)
        have j2 := fun w' (he : Ev Rb wc Rb w') => mlist_any Rb w' he.inv q S d lo (he.map HQc.out)
        have j3 := fun w' (he : Ev Rb wc Rb w') u (hu : FreeI Rb w' u (toI S)) => equal_any Rb w' he.inv u _ _ _ hu.1 (HFc.out.ev he).1 (by rw [toI_length]; have := HSL.out; omega) (by rw [toI_length]; have := HSL.out; omega)
        have j4 := fun w' (he : Ev Rb wc Rb w') => lone_any Rb w' he.inv q S d lo (he.map HQc.out)
        have j5 := fun w' (he : Ev Rb wc Rb w') => msame_any Rb w' he.inv b p S S r r lo lo (he.map HB.out) (he.map HPc.out)
        have j6 := fun w' (he : Ev Rb wc Rb w') => msame_any Rb w' he.inv q p S S d r lo lo (he.map HQc.out) (he.map HPc.out)
        have j7 := fun w' (he : Ev Rb wc Rb w') => root_any Rb w' he.inv p S r lo (he.map HPc.out)
        rw [eqL_true rfl] at j3
        rw [show sameB S S r r lo lo = true by simp [sameB]] at j5
        rw [show sameB S S d r lo lo = decide (d = r) by simp [sameB]] at j6
        have J1 := Lib.hid j1
        have J2 := Lib.hid j2
        have J3 := Lib.hid j3
        have J4 := Lib.hid j4
        have J5 := Lib.hid j5
        have J6 := Lib.hid j6
        have J7 := Lib.hid j7
        clear j1 j2 j3 j4 j5 j6 j7
        obtain ⟨x0, x1, x2⟩ := HX3.out _ _ HEc0.out
        have hdd : (d == d) = true := by simp
        have hll : (lo == lo) = true := by simp
        have hrr : (r == r) = true := by simp
        go_wp2_with fail
        have HEc := Lib.hid (Ev.refl HEc0.out.inv).drew
        obtain ⟨dr, hdr⟩ : ∃ dr, decide (d = r) = dr := ⟨_, rfl⟩
        rw [hdr] at J6
        have t3 : (d == r) = dr := by rw [← hdr]; by_cases h : d = r <;> simp [h]
        clear hdr
        go_region_held3 (fun w' => w'.cell? ⟨w2.heap.size, 0, none⟩ = some (.slice a1 S.length c1) ∧ w'.cell? ⟨w2.heap.size, 1, none⟩ = some (.int .i64 r) ∧ w'.cell? ⟨w2.heap.size, 2, none⟩ = some (.int .i64 lo)) (exact ⟨x0, x1, x2⟩) (first | (go_at_call 32; first | ((with_reducible refine (J1.out _ HEc.out).mono ?_); rintro e w' ⟨rfl, rfl⟩) | ((with_reducible refine (J7.out _ HEc.out).mono ?_); rintro e w' ⟨rfl, rfl⟩)) | (go_at_call 30; refine (J2.out _ HEc.out).mono ?_; rintro e w' ⟨vL, rfl, he, ho⟩; have HEc := Lib.hid (HEc.out.trans he); have HFL := Lib.hid ho.free; clear he ho; obtain ⟨x0, x1, x2⟩ := HX3.out _ _ (HEc0.out.trans HEc.out)) | (go_at_call 31; refine (J3.out _ HEc.out _ HFL.out).mono ?_; rintro e w' ⟨rfl, he⟩; have HEc := Lib.hid (HEc.out.trans he); clear he; obtain ⟨x0, x1, x2⟩ := HX3.out _ _ (HEc0.out.trans HEc.out)) | (go_at_call 33; refine (J4.out _ HEc.out).mono ?_; rintro e w' ⟨rfl, rfl⟩) | (go_at_call 35; first | ((with_reducible refine (J5.out _ HEc.out).mono ?_); rintro e w' ⟨rfl, he⟩; have HEc := Lib.hid (HEc.out.trans he); clear he; obtain ⟨x0, x1, x2⟩ := HX3.out _ _ (HEc0.out.trans HEc.out)) | ((with_reducible refine (J6.out _ HEc.out).mono ?_); rintro e w' ⟨rfl, he⟩; have HEc := Lib.hid (HEc.out.trans he); clear he; obtain ⟨x0, x1, x2⟩ := HX3.out _ _ (HEc0.out.trans HEc.out))))
        all_goals go_wp2_with fail
        all_goals go_ret
        all_goals exact ⟨rfl, _, HE3.out.trans (HEc0.out.trans HEc.out)⟩

end Go.Proofs.Ytedocjhbmhllcaa
