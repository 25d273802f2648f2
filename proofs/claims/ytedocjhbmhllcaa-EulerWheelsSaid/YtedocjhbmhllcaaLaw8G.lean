/- parquetrylaw08.EulerWheels, the walk: it answers true. Conditions: none. -/
import Derived.Test.YtedocjhbmhllcaaMathW
namespace Go.Proofs.Ytedocjhbmhllcaa
open Go.RowKit
set_option linter.unusedVariables false

set_option maxRecDepth 100000 in
set_option maxHeartbeats 2000000 in
theorem eulerWheels_walk (w : World) (kk : Nat) (hkk : kk ≤ 255) : Calls Try.prog 13 #[.int .u8 (kk : Int)] w (RetTrue noReg w) := by
  have HA := Lib.hid (awake8_any noReg w (Inv.noReg w))
  have hnot := not_run
  obtain ⟨n, hn⟩ : ∃ n, 3 + kk % 12 = n := ⟨_, rfl⟩
  have h3 : 3 ≤ n := by omega
  have h14 : n ≤ 14 := by omega
  have hn3 : (3 : Int) + (kk : Int) % 12 = (n : Int) := by omega
  obtain ⟨a1, a2, a3, a4, a5, a6, a7⟩ := wheel_facts h3 h14
  obtain ⟨b1, b2, b3, b4, b5⟩ := cycle_facts h3 h14
  have hwl : (whL n).length = 4 * n := whGo_length n n
  have hcl : (cyL n).length = 2 * n := cyGo_length n n
  have hW : MapOk (whL n) 0 ((0 : Nat) : Int) := by unfold MapOk; rw [hwl]; omega
  have hC : MapOk (cyL n) 0 ((0 : Nat) : Int) := by unfold MapOk; rw [hcl]; omega
  have HN1 := Lib.hid (fun R w (hI : Inv R w) v hv => new_yes R w hI v (whL n) hv 0 ((0 : Nat) : Int) a1 hW)
  have HN2 := Lib.hid (fun R w (hI : Inv R w) v hv => new_yes R w hI v (cyL n) hv 0 ((0 : Nat) : Int) b1 hC)
  have K1 := Lib.hid (fun R w p (hI : Inv R w) (hp : MapAt R p (whL n) 0 ((0 : Nat) : Int)) => by have := planar_any R w hI p (whL n) 0 0 hp; rwa [a5] at this)
  have K2 := Lib.hid (fun R w p (hI : Inv R w) (hp : MapAt R p (whL n) 0 ((0 : Nat) : Int)) => by have := simple_any R w hI p (whL n) 0 0 hp; rwa [a6] at this)
  have K3 := Lib.hid (fun R w p (hI : Inv R w) (hp : MapAt R p (whL n) 0 ((0 : Nat) : Int)) => by have := connected_any R w hI p (whL n) 0 0 hp; rwa [a2] at this)
  obtain ⟨b, hb⟩ : ∃ b, (n == 3) = b := ⟨_, rfl⟩
  have hbI : ((n : Int) == 3) = b := by
    rw [← hb]
    by_cases h : n = 3
    · subst h; rfl
    · rw [beq_eq_false_iff_ne.2 h, beq_eq_false_iff_ne.2 (by omega)]
  rw [hb] at a7 b5
  have K4 := Lib.hid (fun R w p (hI : Inv R w) (hp : MapAt R p (whL n) 0 ((0 : Nat) : Int)) => by have := etri_any R w hI p (whL n) 0 0 hp; rwa [a7] at this)
  have K5 := Lib.hid (fun R w p (hI : Inv R w) (hp : MapAt R p (whL n) 0 ((0 : Nat) : Int)) => by have := vertices_any R w hI p (whL n) 0 ((0 : Nat) : Int) hp; rwa [a3, show (((n + 1 : Nat) : Int) + ((0 : Nat) : Int)) = (n : Int) + 1 by omega] at this)
  have K6 := Lib.hid (fun R w p (hI : Inv R w) (hp : MapAt R p (whL n) 0 ((0 : Nat) : Int)) => by have := borders_any R w hI p (whL n) 0 ((0 : Nat) : Int) hp; rwa [a4, show (((n + 1 : Nat) : Int)) = (n : Int) + 1 by omega] at this)
  have K7 := Lib.hid (fun R w p (hI : Inv R w) (hp : MapAt R p (cyL n) 0 ((0 : Nat) : Int)) => by have := planar_any R w hI p (cyL n) 0 0 hp; rwa [b4] at this)
  have K8 := Lib.hid (fun R w p (hI : Inv R w) (hp : MapAt R p (cyL n) 0 ((0 : Nat) : Int)) => by have := etri_any R w hI p (cyL n) 0 0 hp; rwa [b5] at this)
  have K9 := Lib.hid (fun R w p (hI : Inv R w) (hp : MapAt R p (cyL n) 0 ((0 : Nat) : Int)) => by have := borders_any R w hI p (cyL n) 0 ((0 : Nat) : Int) hp; rwa [b3] at this)
  have HWG := Lib.hid (fun k => whGo_succ n k)
  have HCG := Lib.hid (fun k => cyGo_succ n k)
  have HWL := Lib.hid (fun k => whGo_length n k)
  have HCL := Lib.hid (fun k => cyGo_length n k)
  obtain ⟨i0, hi, hz0, hz1, hz2⟩ := info_parts int_info
  obtain ⟨n4, hn4⟩ : ∃ m, 4 * n = m := ⟨_, rfl⟩
  obtain ⟨n2, hn2⟩ : ∃ m, 2 * n = m := ⟨_, rfl⟩
  have i4 : 4 * (n : Int) = (n4 : Int) := by omega
  have i2 : 2 * (n : Int) = (n2 : Int) := by omega
  have HWL : Hid (∀ k, (whGo n k).length = n4) := Lib.hid (fun k => by rw [← hn4]; exact HWL.out k)
  have HCL : Hid (∀ k, (cyGo n k).length = n2) := Lib.hid (fun k => by rw [← hn2]; exact HCL.out k)
  have H4 := Lib.hid hn4
  have H2 := Lib.hid hn2
  have hn4b : n4 ≤ 56 := by omega
  have hn2b : n2 ≤ 28 := by omega
  clear a1 a2 a3 a4 a5 a6 a7 b1 b2 b3 b4 b5 hwl hcl hW hC hb hn hn4 hn2
  go_enter Try.func13, Try.ntmps13
  go_wp2_with fail
  refine HA.out.mono ?_
  rintro e w1 ⟨rfl, R1, he1⟩
  have HE1 := Lib.hid he1
  have hR1 : R1 w1.heap.size = none := he1.inv.none_of_ge (Nat.le_refl _)
  clear he1
  go_wp2_with (refine wpList_make_full _ rfl _ _ 25 rfl w1.heap.size 3 i0 (.int .i64 0) 1 Try.underlying25 hi hz0 hz1 .i64 .i64 (n4 : Int) (n4 : Int) n4 rfl rfl rfl rfl ?q1 ?q2 (Nat.le_refl _) ?_)
  case q1 => rw [hz2]; omega
  case q2 => unfold maxLen; omega
  intro w2 ho2 hg2
  have hown : OwnI R1 w1.heap.size 3 w2 (.slice (some ⟨w1.heap.size, 0, none⟩) n4 n4) (toI (whGo n 0)) := by
    have := OwnI.madeAt hR1 ho2
    rw [show toI (whGo n 0) = List.replicate n4 0 by simp [toI, whGo, H4.out]]
    exact this
  have HO2 := Lib.hid hown
  have HE2 := Lib.hid ((Ev.refl HE1.out.inv).grown hg2 (by simp))
  clear ho2 hg2 hown
  obtain ⟨bs, hbs⟩ : ∃ b, w1.heap.size = b := ⟨_, rfl⟩
  rw [hbs] at HO2 hR1 ⊢
  have HB1 := Lib.hid hbs
  have hbs2 : bs < w2.heap.size := (HO2.out.lt bs rfl).2
  have hR2 : R1 w2.heap.size = none := HE2.out.inv.none_of_ge (Nat.le_refl _)
  clear hbs
  go_wp2_with (refine wpList_make_full _ rfl _ _ 25 rfl w2.heap.size 3 i0 (.int .i64 0) 1 Try.underlying25 hi hz0 hz1 .i64 .i64 (n2 : Int) (n2 : Int) n2 rfl rfl rfl rfl ?q3 ?q4 (Nat.le_refl _) ?_)
  case q3 => rw [hz2]; omega
  case q4 => unfold maxLen; omega
  intro w3 ho3 hg3
  have hown : OwnI R1 w2.heap.size 3 w3 (.slice (some ⟨w2.heap.size, 0, none⟩) n2 n2) (toI (cyGo n 0)) := by
    have := OwnI.madeAt hR2 ho3
    rw [show toI (cyGo n 0) = List.replicate n2 0 by simp [toI, cyGo, H2.out]]
    exact this
  have HO3 := Lib.hid (hown.mono (B' := bs) (by omega))
  have HS3 := Lib.hid (HO2.out.kept hg3 (Or.inr (by simp [Value.ownBlock])))
  have HE3 := Lib.hid (HE2.out.grown hg3 (by simp))
  obtain ⟨bc, hbc⟩ : ∃ b, w2.heap.size = b := ⟨_, rfl⟩
  rw [hbc] at HO3 hR2 hbs2 ⊢
  have hne : bs ≠ bc := by omega
  have hne' : bc ≠ bs := by omega
  have HB2 : Hid (w1.heap.size ≤ bc) := Lib.hid (by have := HB1.out; omega)
  clear hown ho3 hg3 hbc
  go_wp2_with fail
  have HS3 : Hid (OwnI R1 bs 3 w3 (.slice (some ⟨bs, 0, none⟩) n4 n4) (toI (whGo n 0))) := Lib.hid (HS3.out.mono (by have := HB1.out; omega))
  go_loopg [27] n (fun g v27 wr => ∃ k : Nat, k ≤ n ∧ n - k ≤ g ∧ v27 = .int .i64 (k : Int) ∧ Ev R1 w1 R1 wr ∧ OwnI R1 bs 3 wr (.slice (some ⟨bs, 0, none⟩) n4 n4) (toI (whGo n k)) ∧ OwnI R1 bs 3 wr (.slice (some ⟨bc, 0, none⟩) n2 n2) (toI (cyGo n k)))
  case atStart => exact ⟨0, by omega, by omega, rfl, HE3.out, HS3.out, HO3.out⟩
  case round =>
    obtain ⟨k, hk, hg, rfl, he, hos, hoc⟩ := hrel
    have HEk := Lib.hid he
    have HSk := Lib.hid hos
    have HCk := Lib.hid hoc
    have HLs := Lib.hid (show (toI (whGo n k)).length = n4 by rw [toI_length, HWL.out])
    have HLc := Lib.hid (show (toI (cyGo n k)).length = n2 by rw [toI_length, HCL.out])
    clear he hos hoc
    by_cases hkn : k < n
    · obtain ⟨j, hj⟩ : ∃ j, (k + n - 1) % n = j := ⟨_, rfl⟩
      obtain ⟨q, hq⟩ : ∃ j, (k + 1) % n = j := ⟨_, rfl⟩
      have hjn : j < n := by rw [← hj]; exact Nat.mod_lt _ (by omega)
      have hqn : q < n := by rw [← hq]; exact Nat.mod_lt _ (by omega)
      have ij : ((k : Int) + (n : Int) - 1) % (n : Int) = (j : Int) := by rw [← hj, Int.natCast_emod, show ((k + n - 1 : Nat) : Int) = (k : Int) + (n : Int) - 1 by omega]
      have iq : ((k : Int) + 1) % (n : Int) = (q : Int) := by rw [← hq, Int.natCast_emod]; rfl
      obtain ⟨o1, ho1⟩ : ∃ x, 2 * k = x := ⟨_, rfl⟩
      obtain ⟨o4, ho4⟩ : ∃ x, 2 * (n + k) = x := ⟨_, rfl⟩
      obtain ⟨o2, ho2⟩ : ∃ x, o4 + 1 = x := ⟨_, rfl⟩
      obtain ⟨o3, ho3⟩ : ∃ x, 2 * j + 1 = x := ⟨_, rfl⟩
      obtain ⟨v4, hv4⟩ : ∃ x, 2 * (n + q) = x := ⟨_, rfl⟩
      have e1 : 2 * (k : Int) = (o1 : Int) := by omega
      have e4 : 2 * ((n : Int) + (k : Int)) = (o4 : Int) := by omega
      have e2 : (o4 : Int) + 1 = (o2 : Int) := by omega
      have e3 : 2 * (j : Int) + 1 = (o3 : Int) := by omega
      have e5 : 2 * ((n : Int) + (q : Int)) = (v4 : Int) := by omega
      have hh4 := H4.out
      have hh2 := H2.out
      have l1 : o1 < n4 := by omega
      have l2 : o2 < n4 := by omega
      have l3 : o3 < n4 := by omega
      have l4 : o4 < n4 := by omega
      have m1 : o1 < n2 := by omega
      have m3 : o3 < n2 := by omega
      have hws : whGo n (k + 1) = ((((whGo n k).set o1 o2).set o2 o3).set o3 o1).set o4 v4 := by rw [HWG.out]; unfold whStep; rw [hj, hq, ho1, ho4, ho2, ho3, hv4]
      have hcs : cyGo n (k + 1) = ((cyGo n k).set o1 o3).set o3 o1 := by rw [HCG.out]; unfold cyStep; rw [hj, ho1, ho3]
      obtain ⟨_, z0, _, _, c1, z1⟩ := HSk.out.headAt HLs.out l1
      cases z0
      obtain ⟨_, z0, _, _, c2, z2⟩ := HSk.out.headAt HLs.out l2
      cases z0
      obtain ⟨_, z0, _, _, c3, z3⟩ := HSk.out.headAt HLs.out l3
      cases z0
      obtain ⟨_, z0, _, _, c4, z4⟩ := HSk.out.headAt HLs.out l4
      cases z0
      obtain ⟨_, z0, _, _, d1, y1⟩ := HCk.out.headAt HLc.out m1
      cases z0
      obtain ⟨_, z0, _, _, d3, y3⟩ := HCk.out.headAt HLc.out m3
      cases z0
      have s1 := (HSk.out.put HLs.out o1 l1 (o2 : Int)).put (by rw [List.length_set]; exact HLs.out) o2 l2 (o3 : Int)
      have s2 := (s1.put (by rw [List.length_set, List.length_set]; exact HLs.out) o3 l3 (o1 : Int)).put (by rw [List.length_set, List.length_set, List.length_set]; exact HLs.out) o4 l4 (v4 : Int)
      rw [← toI_set, ← toI_set, ← toI_set, ← toI_set, ← hws] at s2
      have s3 := (s2.setCell (a := ⟨bc, o1, none⟩) (fun e => hne (by cases e; rfl)) (.int .i64 (o3 : Int))).setCell (a := ⟨bc, o3, none⟩) (fun e => hne (by cases e; rfl)) (.int .i64 (o1 : Int))
      have t1 := (((HCk.out.setCell (a := ⟨bs, o1, none⟩) (fun e => hne' (by cases e; rfl)) (.int .i64 (o2 : Int))).setCell (a := ⟨bs, o2, none⟩) (fun e => hne' (by cases e; rfl)) (.int .i64 (o3 : Int))).setCell (a := ⟨bs, o3, none⟩) (fun e => hne' (by cases e; rfl)) (.int .i64 (o1 : Int))).setCell (a := ⟨bs, o4, none⟩) (fun e => hne' (by cases e; rfl)) (.int .i64 (v4 : Int))
      have t2 := (t1.put HLc.out o1 m1 (o3 : Int)).put (by rw [List.length_set]; exact HLc.out) o3 m3 (o1 : Int)
      rw [← toI_set, ← toI_set, ← hcs] at t2
      have hlb : w1.heap.size ≤ bs := by have := HB1.out; omega
      have v1 := (((HEk.out.setCell (p := ⟨bs, o1, none⟩) hlb hR1 (.int .i64 (o2 : Int))).setCell (p := ⟨bs, o2, none⟩) hlb hR1 (.int .i64 (o3 : Int))).setCell (p := ⟨bs, o3, none⟩) hlb hR1 (.int .i64 (o1 : Int))).setCell (p := ⟨bs, o4, none⟩) hlb hR1 (.int .i64 (v4 : Int))
      have v2 := (v1.setCell (p := ⟨bc, o1, none⟩) HB2.out hR2 (.int .i64 (o3 : Int))).setCell (p := ⟨bc, o3, none⟩) HB2.out hR2 (.int .i64 (o1 : Int))
      have HS3' := Lib.hid s3
      have HT2 := Lib.hid t2
      have HV2 := Lib.hid v2
      clear hws hcs s1 s2 s3 t1 t2 v1 v2 hj hq ho1 ho2 ho3 ho4 hv4 hh4 hh2
      go_wp2_with fail
      go_region
      all_goals go_wp2_with fail
      all_goals go_roundg (n - (k + 1))
      all_goals first | omega | exact ⟨k + 1, by omega, by omega, by go_num, HV2.out.drew, HS3'.out.drew, HT2.out.drew⟩
    · obtain rfl : k = n := by omega
      have HNa := Lib.hid (HN1.out R1 wr HEk.out.inv _ HSk.out.free)
      have HCf := Lib.hid HCk.out.free
      go_wp2_with fail
      refine HNa.out.mono ?_
      rintro e w5 ⟨p, R5, rfl, he5, hp5⟩
      have HE5 := Lib.hid he5
      have HP5 := Lib.hid hp5
      have HNb := Lib.hid (HN2.out R5 w5 he5.inv _ (HCf.out.ev he5))
      clear he5 hp5
      go_wp2_with fail
      refine HNb.out.mono ?_
      rintro e w6 ⟨q, R6, rfl, he6, hq6⟩
      have HE6 := Lib.hid (HE5.out.trans he6)
      have HP6 := Lib.hid (he6.map HP5.out)
      have HQ6 := Lib.hid hq6
      have hbb : (b == b) = true := by simp
      clear he6 hq6
      go_wp2_with fail
      refine (K1.out _ _ _ HE6.out.inv HP6.out).mono ?_
      rintro e w7 ⟨rfl, R7, he⟩
      have HE7 := Lib.hid (HE6.out.trans he)
      have HP7 := Lib.hid (he.map HP6.out)
      have HQ7 := Lib.hid (he.map HQ6.out)
      clear he
      go_wp2_with fail
      refine (K2.out _ _ _ HE7.out.inv HP7.out).mono ?_
      rintro e w8 ⟨rfl, R8, he⟩
      have HE8 := Lib.hid (HE7.out.trans he)
      have HP8 := Lib.hid (he.map HP7.out)
      have HQ8 := Lib.hid (he.map HQ7.out)
      clear he
      go_wp2_with fail
      refine (K3.out _ _ _ HE8.out.inv HP8.out).mono ?_
      rintro e w9 ⟨rfl, R9, he⟩
      have HE9 := Lib.hid (HE8.out.trans he)
      have HP9 := Lib.hid (he.map HP8.out)
      have HQ9 := Lib.hid (he.map HQ8.out)
      clear he
      go_wp2_with fail
      refine (K4.out _ _ _ HE9.out.inv HP9.out).mono ?_
      rintro e w10 ⟨rfl, R10, he⟩
      have HE10 := Lib.hid (HE9.out.trans he)
      have HP10 := Lib.hid (he.map HP9.out)
      have HQ10 := Lib.hid (he.map HQ9.out)
      clear he
      go_wp2_with fail
      refine (K5.out _ _ _ HE10.out.inv HP10.out).mono ?_
      rintro e w11 ⟨rfl, R11, he⟩
      have HE11 := Lib.hid (HE10.out.trans he)
      have HP11 := Lib.hid (he.map HP10.out)
      have HQ11 := Lib.hid (he.map HQ10.out)
      clear he
      go_wp2_with fail
      refine (K6.out _ _ _ HE11.out.inv HP11.out).mono ?_
      rintro e w12 ⟨rfl, R12, he⟩
      have HE12 := Lib.hid (HE11.out.trans he)
      have HP12 := Lib.hid (he.map HP11.out)
      have HQ12 := Lib.hid (he.map HQ11.out)
      clear he
      go_wp2_with fail
      refine (K7.out _ _ _ HE12.out.inv HQ12.out).mono ?_
      rintro e w13 ⟨rfl, R13, he⟩
      have HE13 := Lib.hid (HE12.out.trans he)
      have HP13 := Lib.hid (he.map HP12.out)
      have HQ13 := Lib.hid (he.map HQ12.out)
      clear he
      go_wp2_with fail
      refine (K8.out _ _ _ HE13.out.inv HQ13.out).mono ?_
      rintro e w14 ⟨rfl, R14, he⟩
      have HE14 := Lib.hid (HE13.out.trans he)
      have HP14 := Lib.hid (he.map HP13.out)
      have HQ14 := Lib.hid (he.map HQ13.out)
      clear he
      go_wp2_with fail
      refine (K9.out _ _ _ HE14.out.inv HQ14.out).mono ?_
      rintro e w15 ⟨rfl, R15, he⟩
      have HE15 := Lib.hid (HE14.out.trans he)
      have HP15 := Lib.hid (he.map HP14.out)
      have HQ15 := Lib.hid (he.map HQ14.out)
      clear he
      go_wp2_with fail
      go_ret
      exact ⟨ret_bool (by simp), _, HE1.out.trans (HEk.out.trans HE15.out)⟩

end Go.Proofs.Ytedocjhbmhllcaa
