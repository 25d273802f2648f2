/- parquetrylaw10.DualNames, the walk: it answers true. Conditions: the rows lie in memory. -/
import Derived.Test.YtnbecpeiodcohaaZDualNames23
import Derived.Test.YtnbecpeiodcohaaZDualNames24
import Derived.Test.YtnbecpeiodcohaaZDualNames25
import Derived.Test.YtnbecpeiodcohaaZDualNames18
import Derived.Test.YtnbecpeiodcohaaZDualNames21
namespace Go.Proofs.Ytnbecpeiodcohaa
open Go.RowKit
set_option linter.unusedVariables false

/-- perm.Of of what permutes -/
theorem of_yes (R : Reg) (w : World) (hI : Inv R w) (v : Value) (L : List Nat) (hv : Ints w v (toI L)) (hL : IsPerm L) (hn : L.length ≤ 4194304) :
    Calls Try.prog 69 #[v] w fun e w' => ∃ p R', e = .returned (.tuple #[p, .int .i64 0]) ∧ Ev R w R' w' ∧ PermAt R' p L := by
  refine (of_any R w hI v (toI L) hv (by rw [toI_length]; exact hn)).mono ?_
  rintro e w' (⟨h, _⟩ | ⟨S', p, R', _, he', rfl, he, hq⟩)
  · exact absurd ⟨L, hL, rfl⟩ h
  · have := toI_inj he'
    subst this
    exact ⟨p, R', rfl, he, hq⟩

set_option maxRecDepth 100000 in
set_option maxHeartbeats 16000000 in
theorem dualNames_walk (w : World) (n rt : Nat) (wg : Bool) (hn : n ≤ 255) (hr : rt ≤ 255) (v : Value) (bs : List Nat) (hv : FreeB noReg w v bs) (v2 : Value) (ns : List Nat) (hv2 : FreeB noReg w v2 ns) (v3 : Value) (fn : Nat) (fb : Nat → Bool) (hv3 : FreeT noReg w v3 fn fb) :
    Calls Try.prog 14 #[.int .u8 (n : Int), v, .int .u8 (rt : Int), v2, v3, .bool wg] w (RetTrue noReg w) := by
  have HA := Lib.hid (awake10_any noReg w (Inv.noReg w))
  have hnot := not_run
  have HV := Lib.hid hv
  have hS := mixL_perm (2 * (n % 12)) bs
  have hSl := mixL_length (2 * (n % 12)) bs
  have hok0 := made_ok (n % 12) rt bs 0 (by omega) (by omega)
  have HM := Lib.hid (fun R w' (hI : Inv R w') (hv : FreeB R w' v bs) => made10_any R w' hI n rt 0 hn hr (by omega) v bs hv)
  obtain ⟨S, hSe⟩ : ∃ S, mixL (2 * (n % 12)) bs = S := ⟨_, rfl⟩
  obtain ⟨r, hre⟩ : ∃ r, anyRoot (n % 12) rt = r := ⟨_, rfl⟩
  obtain ⟨m, hm⟩ : ∃ m, 2 * (n % 12) = m := ⟨_, rfl⟩
  simp only [show ((0 : Nat) : Int) = 0 from rfl] at HM
  have hm22 : m ≤ 22 := by omega
  have hev : m % 2 = 0 := by omega
  rw [hSe, hre] at HM hok0
  rw [hSe, hm] at hSl
  rw [hSe] at hS
  rw [← hSl] at hev hm22
  have HV2 := Lib.hid hv2
  have HV3 := Lib.hid hv3
  have hfm : fn ≤ maxLen := by obtain ⟨_, _, _, h, _⟩ := hv3; exact h
  obtain ⟨a0, c0, rfl, _⟩ := hv
  obtain ⟨a02, c02, rfl, _⟩ := hv2
  obtain ⟨a03, c03, rfl, _⟩ := hv3
  clear hSe hre hm hSl
  have HS := Lib.hid hS
  have HEv := Lib.hid hev
  have HOk := Lib.hid hok0
  clear hS hok0
  go_enter Try.func14, Try.ntmps14
  go_wp2_with fail
  refine HA.out.mono ?_
  rintro e w1 ⟨rfl, R1, he1⟩
  have HE1 := Lib.hid he1
  clear he1
  go_wp2_with fail
  refine (HM.out R1 w1 HE1.out.inv (HV.out.ev HE1.out)).mono ?_
  rintro e w2 ⟨p, a1, c1, R2, rfl, he2, hp2, hf2⟩
  unfold refV
  have hnone : R2 w2.heap.size = none := he2.inv.none_of_ge (Nat.le_refl _)
  have hI3 := he2.inv.alloc (.cells #[.slice a1 S.length c1, .int .i64 r, .int .i64 0] 27)
  have hf3 := hf2.ev ((Ev.refl he2.inv).alloc (.cells #[.slice a1 S.length c1, .int .i64 r, .int .i64 0] 27))
  have HE2 := Lib.hid (HE1.out.trans he2)
  have HP3 := Lib.hid hp2
  have HX := Lib.hid (fun R' w' (h : Ev R2 (w2.alloc (.cells #[.slice a1 S.length c1, .int .i64 r, .int .i64 0] 27)) R' w') => h.ref3 hnone)
  have HF3 := Lib.hid hf3
  have HI3 := Lib.hid hI3
  clear he2 hp2 hf2 hI3 hnone hf3
  go_upto_region 4 with fail
  obtain ⟨w3, hw3⟩ : ∃ w3, w3 = w2.alloc (.cells #[.slice a1 S.length c1, .int .i64 r, .int .i64 0] 27) := ⟨_, rfl⟩
  have HE3 : Hid (Ev noReg w R2 w3) := by rw [hw3]; exact HE2.out.alloc _
  rw [← hw3] at HX HF3 HI3 ⊢
  clear hw3 HE2
  have HEg := Lib.hid (fun R' w' (he : Ev R2 w3 R' w') => edges_any R' w' he.inv p S r 0 (he.map HP3.out))
  obtain ⟨E, hE⟩ : ∃ E, S.length / 2 = E := ⟨_, rfl⟩
  have hSE : S.length = 2 * E := by omega
  have hE11 : E ≤ 11 := by omega
  have HSE := Lib.hid hSE
  rw [hE] at HEg
  have HMx := Lib.hid (rmix_any R2 w3 HI3.out E (by omega) _ ns (HV2.out.ev HE3.out))
  have hMp := mixL_perm E ns
  have hMl := mixL_length E ns
  obtain ⟨M, hM⟩ : ∃ M, mixL E ns = M := ⟨_, rfl⟩
  rw [hM] at HMx hMp hMl
  have HMl := Lib.hid hMl
  have HMp := Lib.hid hMp
  clear hE hM hMl hMp hSE
  obtain ⟨fbb, hfbb⟩ : ∃ g : Nat → Bool, g = fun e => decide (e < fn) && fb e := ⟨_, rfl⟩
  have HFb := Lib.hid (fun e => congrFun hfbb e)
  have HTp := Lib.hid (lbl_perm HMp.out fbb)
  have HTm := Lib.hid (lbl_mates HMp.out fbb)
  have htl := lblL_length M fbb M.length
  rw [HMl.out] at HTp HTm htl
  have HTl := Lib.hid htl
  clear hfbb htl
  go_wp2_with fail
  refine (HEg.out _ _ (Ev.refl HI3.out)).mono ?_
  rintro e w' ⟨rfl, rfl⟩
  go_wp2_with fail
  refine HMx.out.mono ?_
  rintro e w4 ⟨v4, rfl, he4, ho4⟩
  obtain ⟨a4, c4, rfl, _⟩ := ho4.ints.open
  rw [toI_length, HMl.out] at ho4 ⊢
  have HE4 := Lib.hid he4
  have HO4 := Lib.hid ho4
  clear he4 ho4 HMx
  go_wp2_with fail
  go_loopg [15, 43] E (fun g v15 v43 wr => ∃ (i : Nat) (a6 : Option Addr) (l6 c6 : Nat), i ≤ E ∧ E - i ≤ g ∧ v43 = .int .i64 (i : Int) ∧ v15 = .slice a6 l6 c6 ∧ Ev R2 w4 R2 wr ∧ OwnI R2 w4.heap.size 3 wr (.slice a6 l6 c6) (toI (lblL M fbb i)))
  case atStart => exact ⟨0, none, 0, 0, Nat.zero_le _, by omega, rfl, rfl, Ev.refl HE4.out.inv, OwnI.nil _ _ _ _⟩
  case round =>
    obtain ⟨i, a6, l6, c6, hie, hg, rfl, rfl, hev, ho6⟩ := hrel
    have HE := Lib.hid hev
    have HO6 := Lib.hid ho6
    clear hev ho6
    by_cases hil : i < E
    · obtain ⟨g4, rfl, _, _, k0, _⟩ := (HO4.out.ev HE.out).headAt (xs := toI M) (by rw [toI_length, HMl.out]) hil
      rw [toI_nth] at k0
      obtain ⟨tt, htt⟩ : ∃ k, at' M i = k := ⟨_, rfl⟩
      have htl : tt < E := by have := HMp.out.lt (i := i) (by rw [HMl.out]; exact hil); rw [htt, HMl.out] at this; exact this
      rw [htt] at k0
      have hlb := lblN_even M fbb i
      rw [htt] at hlb
      have hsucc := lblL_succ M fbb i
      have hll : (toI (lblL M fbb i)).length ≤ 100 := by rw [toI_length, lblL_length]; omega
      have hz : w4.heap.size ≤ wr.heap.size := HE.out.size
      obtain ⟨xa, hxa⟩ : ∃ k, 2 * tt = k := ⟨_, rfl⟩
      obtain ⟨xb, hxb⟩ : ∃ k, xa + 1 = k := ⟨_, rfl⟩
      have hw2 : IntKind.i64.wrap (2 * (tt : Int)) = (xa : Int) := by rw [show 2 * (tt : Int) = (xa : Int) by omega]; exact IntWalk.i64_in _ (by omega)
      have hw3 : IntKind.i64.wrap ((xa : Int) + 1) = (xb : Int) := by rw [show (xa : Int) + 1 = (xb : Int) by omega]; exact IntWalk.i64_in _ (by omega)
      rw [hxa, hxb] at hlb
      clear hxa hxb
      clear htt
      have hif := HFb.out i
      by_cases hifn : i < fn
      · obtain ⟨a9, c9, e9, hm9, hc9⟩ := HV3.out.ev (HE3.out.trans (HE4.out.trans HE.out))
        cases e9
        obtain ⟨b9, o9, rfl, _, k9⟩ := hc9 i hifn
        have hd1 : decide ((i : Int) < (fn : Int)) = true := by simp; exact hifn
        have hd2 : (i : Int) < (fn : Int) := by omega
        clear hc9
        rw [decide_eq_true hifn, Bool.true_and] at hif
        cases hfi : fb i with
        | true =>
          rw [hfi] at k9 hif
          have hflip : fbb i = true := hif
          rw [if_pos hflip, if_pos hflip] at hlb
          rw [hlb.1, hlb.2] at hsucc
          have HSc := Lib.hid hsucc
          have HEa := Lib.hid (HE.out.alloc (.cells #[.int .i64 ((xb : Nat) : Int), .int .i64 ((xa : Nat) : Int)] 3))
          have HOa := Lib.hid (HO6.out.alloc (.cells #[.int .i64 ((xb : Nat) : Int), .int .i64 ((xa : Nat) : Int)] 3))
          have HLl := Lib.hid hll
          clear hsucc hlb hif hll
          go_wp2_with (at_builtin; refine wpList_app_ints (R := R2) (B := w4.heap.size) rfl _ _ rfl HOa.out rfl ⟨wr.heap.size, 0, none⟩ 2 2 [((xb : Nat) : Int), ((xa : Nat) : Int)] rfl ?a0 ?a1 ?a2 ?a3 ?a4 ?_)
          try (case a0 => first | rfl | simp)
          case a1 =>
            intro j hj
            match j, hj with
            | 0, _ => simp [Addr.add, nth]
            | 1, _ => simp [Addr.add, nth]
          case a2 => have := HLl.out; omega
          case a3 => first | omega | (simp; omega)
          case a4 => exact fun q hq => HEa.out.inv.none_of_ge (by simp at hq ⊢; omega)
          intro v8 w6 ho8 hg6 hs6
          have hap : toI (lblL M fbb i) ++ [((xb : Nat) : Int), ((xa : Nat) : Int)] = toI (lblL M fbb (i + 1)) := by rw [HSc.out]; simp [toI]
          rw [hap] at ho8
          obtain ⟨a8, c8, rfl, _⟩ := ho8.ints.open
          obtain ⟨l8, hl8⟩ : ∃ l, (toI (lblL M fbb (i + 1))).length = l := ⟨_, rfl⟩
          rw [hl8] at ho8 hs6
          try rw [hl8]
          have HE8 := Lib.hid (HEa.out.app HOa.out (Nat.le_refl _) hg6)
          have HO8 := Lib.hid ho8
          clear hl8 hap ho8 hg6 hs6
          go_wp2_with fail
          go_roundg (E - (i + 1))
          case measure => omega
          case rel => exact ⟨i + 1, a8, l8, c8, by omega, by omega, by go_num, rfl, HE8.out, HO8.out⟩
        | false =>
          rw [hfi] at k9 hif
          have hflip : ¬ fbb i = true := by rw [hif]; simp
          rw [if_neg hflip, if_neg hflip] at hlb
          rw [hlb.1, hlb.2] at hsucc
          have HSc := Lib.hid hsucc
          have HEa := Lib.hid (HE.out.alloc (.cells #[.int .i64 ((xa : Nat) : Int), .int .i64 ((xb : Nat) : Int)] 3))
          have HOa := Lib.hid (HO6.out.alloc (.cells #[.int .i64 ((xa : Nat) : Int), .int .i64 ((xb : Nat) : Int)] 3))
          have HLl := Lib.hid hll
          clear hsucc hlb hif hll
          go_wp2_with (at_builtin; refine wpList_app_ints (R := R2) (B := w4.heap.size) rfl _ _ rfl HOa.out rfl ⟨wr.heap.size, 0, none⟩ 2 2 [((xa : Nat) : Int), ((xb : Nat) : Int)] rfl ?a0 ?a1 ?a2 ?a3 ?a4 ?_)
          try (case a0 => first | rfl | simp)
          case a1 =>
            intro j hj
            match j, hj with
            | 0, _ => simp [Addr.add, nth]
            | 1, _ => simp [Addr.add, nth]
          case a2 => have := HLl.out; omega
          case a3 => first | omega | (simp; omega)
          case a4 => exact fun q hq => HEa.out.inv.none_of_ge (by simp at hq ⊢; omega)
          intro v8 w6 ho8 hg6 hs6
          have hap : toI (lblL M fbb i) ++ [((xa : Nat) : Int), ((xb : Nat) : Int)] = toI (lblL M fbb (i + 1)) := by rw [HSc.out]; simp [toI]
          rw [hap] at ho8
          obtain ⟨a8, c8, rfl, _⟩ := ho8.ints.open
          obtain ⟨l8, hl8⟩ : ∃ l, (toI (lblL M fbb (i + 1))).length = l := ⟨_, rfl⟩
          rw [hl8] at ho8 hs6
          try rw [hl8]
          have HE8 := Lib.hid (HEa.out.app HOa.out (Nat.le_refl _) hg6)
          have HO8 := Lib.hid ho8
          clear hl8 hap ho8 hg6 hs6
          go_wp2_with fail
          go_roundg (E - (i + 1))
          case measure => omega
          case rel => exact ⟨i + 1, a8, l8, c8, by omega, by omega, by go_num, rfl, HE8.out, HO8.out⟩
      · have hd1 : decide ((i : Int) < (fn : Int)) = false := by simp; omega
        have hd2 : ¬ (i : Int) < (fn : Int) := by omega
        rw [decide_eq_false hifn, Bool.false_and] at hif
        have hflip : ¬ fbb i = true := by rw [hif]; simp
        rw [if_neg hflip, if_neg hflip] at hlb
        rw [hlb.1, hlb.2] at hsucc
        have HSc := Lib.hid hsucc
        have HEa := Lib.hid (HE.out.alloc (.cells #[.int .i64 ((xa : Nat) : Int), .int .i64 ((xb : Nat) : Int)] 3))
        have HOa := Lib.hid (HO6.out.alloc (.cells #[.int .i64 ((xa : Nat) : Int), .int .i64 ((xb : Nat) : Int)] 3))
        have HLl := Lib.hid hll
        clear hsucc hlb hif hll
        go_wp2_with (at_builtin; refine wpList_app_ints (R := R2) (B := w4.heap.size) rfl _ _ rfl HOa.out rfl ⟨wr.heap.size, 0, none⟩ 2 2 [((xa : Nat) : Int), ((xb : Nat) : Int)] rfl ?a0 ?a1 ?a2 ?a3 ?a4 ?_)
        try (case a0 => first | rfl | simp)
        case a1 =>
          intro j hj
          match j, hj with
          | 0, _ => simp [Addr.add, nth]
          | 1, _ => simp [Addr.add, nth]
        case a2 => have := HLl.out; omega
        case a3 => first | omega | (simp; omega)
        case a4 => exact fun q hq => HEa.out.inv.none_of_ge (by simp at hq ⊢; omega)
        intro v8 w6 ho8 hg6 hs6
        have hap : toI (lblL M fbb i) ++ [((xa : Nat) : Int), ((xb : Nat) : Int)] = toI (lblL M fbb (i + 1)) := by rw [HSc.out]; simp [toI]
        rw [hap] at ho8
        obtain ⟨a8, c8, rfl, _⟩ := ho8.ints.open
        obtain ⟨l8, hl8⟩ : ∃ l, (toI (lblL M fbb (i + 1))).length = l := ⟨_, rfl⟩
        rw [hl8] at ho8 hs6
        try rw [hl8]
        have HE8 := Lib.hid (HEa.out.app HOa.out (Nat.le_refl _) hg6)
        have HO8 := Lib.hid ho8
        clear hl8 hap ho8 hg6 hs6
        go_wp2_with fail
        go_roundg (E - (i + 1))
        case measure => omega
        case rel => exact ⟨i + 1, a8, l8, c8, by omega, by omega, by go_num, rfl, HE8.out, HO8.out⟩
    · obtain rfl : i = E := by omega
      obtain ⟨T, hT⟩ : ∃ T, lblL M fbb i = T := ⟨_, rfl⟩
      rw [hT] at HO6 HTp HTm HTl
      obtain ⟨D, hDD⟩ : ∃ D, 2 * i = D := ⟨_, rfl⟩
      rw [hDD] at HTl
      have hD2 : D ≤ 22 := by omega
      have hSD : S.length = D := by have := HSE.out; omega
      have HSD := Lib.hid hSD
      have hl6 : l6 = D := by rw [HO6.out.ints.length_eq, toI_length, HTl.out]
      subst hl6
      obtain ⟨D, hDl⟩ : ∃ D, D = l6 := ⟨_, rfl⟩
      subst hDl
      have HE40 := Lib.hid (HE4.out.trans HE.out)
      have HDa := Lib.hid (fun R' w' (he : Ev R2 wr R' w') => darts_any R' w' he.inv p S r 0 ((HE40.out.trans he).map HP3.out))
      rw [HSD.out] at HDa
      clear hT HO4 HFb hg hil hDD hSD
      by_cases hw2i : 2 < D
      · cases wg with
        | true =>
          have hw : ((D : Nat) : Int) > 2 := by omega
          have hdw : decide ((2 : Int) < ((D : Nat) : Int)) = true := by simp; omega
          have HWp := Lib.hid (sw02_perm HTp.out (by rw [HTl.out]; omega))
          have HWn := Lib.hid (sw02_not HTp.out HTm.out (by rw [HTl.out]; omega))
          have hwl := sw02_length T
          rw [HTl.out] at hwl
          have HWl := Lib.hid hwl
          obtain ⟨g6, rfl, hB6, hR6, k0, z0⟩ := HO6.out.headAt (xs := toI T) (by rw [toI_length, HTl.out]) (i := 0) (by omega)
          obtain ⟨_, e1, _, _, k2, z2⟩ := HO6.out.headAt (xs := toI T) (by rw [toI_length, HTl.out]) (i := 2) (by omega)
          cases e1
          rw [toI_nth] at k0 k2
          have hls : (toI T).length = D := by rw [toI_length, HTl.out]
          have hsw : ((toI T).set 0 ((at' T 2 : Nat) : Int)).set 2 ((at' T 0 : Nat) : Int) = toI (sw02 T) := by simp [sw02, toI, List.map_set]
          have hp1 := (HO6.out.put hls 0 (by omega) ((at' T 2 : Nat) : Int)).put (by rw [List.length_set]; exact hls) 2 (by omega) ((at' T 0 : Nat) : Int)
          rw [hsw] at hp1
          have HO7 := Lib.hid hp1
          have HE7 := Lib.hid ((HE.out.setCell (p := ⟨g6, 0, none⟩) hB6 hR6 (.int .i64 ((at' T 2 : Nat) : Int))).setCell (p := ⟨g6, 2, none⟩) hB6 hR6 (.int .i64 ((at' T 0 : Nat) : Int)))
          obtain ⟨y0, hy0⟩ : ∃ y, at' T 0 = y := ⟨_, rfl⟩
          obtain ⟨y2, hy2⟩ : ∃ y, at' T 2 = y := ⟨_, rfl⟩
          rw [hy0] at k0 HO7 HE7
          rw [hy2] at k2 HO7 HE7
          have i2 : (2 : Int) < ((D : Nat) : Int) := by omega
          have i0 : (0 : Int) < ((D : Nat) : Int) := by omega
          clear hy0 hy2 hp1 hsw hwl hls
          go_wp2_with fail
          go_region
          all_goals (
            obtain ⟨w7, hw7⟩ : ∃ w7, w7 = ((wr.setCell ⟨g6, 0, none⟩ (.int .i64 ((y2 : Nat) : Int))).setCell ⟨g6, 2, none⟩ (.int .i64 ((y0 : Nat) : Int))).drew := ⟨_, rfl⟩
            have HE8 : Hid (Ev R2 w3 R2 w7) := Lib.hid (by rw [hw7]; exact (HE4.out.trans HE7.out).drew)
            have HO8 : Hid (OwnI R2 w4.heap.size 3 w7 (.slice (some ⟨g6, 0, none⟩) D c6) (toI (sw02 T))) := Lib.hid (by rw [hw7]; exact HO7.out.drew)
            rw [← hw7]
            clear hw7 k0 k2 z0 z2 HO7 HE7
            have HOf := Lib.hid (of_yes R2 w7 HE8.out.inv _ (sw02 T) HO8.out.ints HWp.out (by rw [HWl.out]; omega))
            go_wp2_with fail
            refine HOf.out.mono ?_
            rintro e w8 ⟨q, R8, rfl, he8, hq⟩
            have HE9 := Lib.hid (HE8.out.trans he8)
            have HRl := Lib.hid (relabel_no R8 w8 he8.inv p q S (sw02 T) r 0 (HE9.out.map HP3.out) hq HWp.out (by rw [HWl.out, HSD.out]) HWn.out)
            clear he8 hq HOf
            go_wp2_with fail
            refine HRl.out.mono ?_
            rintro e w9 ⟨rfl, he9⟩
            have HEA := Lib.hid (HE9.out.trans he9)
            clear he9 HRl
            go_wp2_with fail
            have hdd := darts_any R8 w9 HEA.out.inv p S r 0 (HEA.out.map HP3.out)
            rw [HSD.out] at hdd
            refine hdd.mono ?_
            rintro e w' ⟨rfl, rfl⟩
            have hon := one_any R8 w9 HEA.out.inv (D + 1) (by omega)
            have HOn := Lib.hid hon
            have hwp : IntKind.i64.wrap (((D : Nat) : Int) + 1) = ((D + 1 : Nat) : Int) := by rw [show ((D : Nat) : Int) + 1 = ((D + 1 : Nat) : Int) by omega]; exact IntWalk.i64_in _ (by omega)
            clear hon hdd
            go_wp2_with fail
            refine HOn.out.mono ?_
            rintro e wB ⟨qo, RB, rfl, heB, hqo⟩
            have HEB := Lib.hid (HEA.out.trans heB)
            have HRn := Lib.hid (relabel_len RB wB heB.inv p qo S _ r 0 (HEB.out.map HP3.out) hqo (by rw [List.length_range, HSD.out]; omega))
            clear heB hqo HOn
            go_wp2_with fail
            refine HRn.out.mono ?_
            rintro e w' ⟨rfl, rfl⟩
            go_wp2_with fail
            go_ret
            exact ⟨rfl, RB, HE3.out.trans HEB.out⟩)
        | false =>
          have HOf := Lib.hid (of_yes R2 wr HE40.out.inv _ T HO6.out.ints HTp.out (by rw [HTl.out]; omega))
          go_wp2_with fail
          refine HOf.out.mono ?_
          rintro e w8 ⟨q, R8, rfl, he8, hq⟩
          have HE9 := Lib.hid (HE40.out.trans he8)
          have HO8 := Lib.hid (HO6.out.ev he8)
          have HQ8 := Lib.hid hq
          have HRl := Lib.hid (relabel_yes R8 w8 he8.inv p q S T r 0 (HE9.out.map HP3.out) hq HTp.out (by rw [HTl.out, HSD.out]) HTm.out)
          clear he8 hq HOf HE40 HDa
          go_wp2_with fail
          refine HRl.out.mono ?_
          rintro e w9 ⟨o, R9, rfl, he9, ho9⟩
          have HEA := Lib.hid (HE9.out.trans he9)
          have HO9 := Lib.hid (HO8.out.ev he9)
          have HQ9 := Lib.hid (he9.perm HQ8.out)
          have HM9 := Lib.hid ho9
          clear he9 ho9 HRl HO8 HQ8
          go_wp2_with fail
          have hdd := darts_any R9 w9 HEA.out.inv p S r 0 (HEA.out.map HP3.out)
          rw [HSD.out] at hdd
          refine hdd.mono ?_
          rintro e w' ⟨rfl, rfl⟩
          have hon := one_any R9 w9 HEA.out.inv (D + 1) (by omega)
          have HOn := Lib.hid hon
          have hwp : IntKind.i64.wrap ((D : Int) + 1) = ((D + 1 : Nat) : Int) := by rw [show (D : Int) + 1 = ((D + 1 : Nat) : Int) by omega]; exact IntWalk.i64_in _ (by omega)
          clear hon hdd
          go_wp2_with fail
          refine HOn.out.mono ?_
          rintro e wB ⟨qo, RB, rfl, heB, hqo⟩
          have HEB := Lib.hid (HEA.out.trans heB)
          have HOB := Lib.hid (HO9.out.ev heB)
          have HQB := Lib.hid (heB.perm HQ9.out)
          have HMB := Lib.hid (heB.map HM9.out)
          have HRn := Lib.hid (relabel_len RB wB heB.inv p qo S _ r 0 (HEB.out.map HP3.out) hqo (by rw [List.length_range, HSD.out]; omega))
          clear heB hqo HOn HO9 HQ9 HM9
          go_wp2_with fail
          refine HRn.out.mono ?_
          rintro e w' ⟨rfl, rfl⟩
          obtain ⟨rr, hrr⟩ : ∃ x, atI T r = x := ⟨_, rfl⟩
          have HRr := Lib.hid hrr
          have HK1 := Lib.hid (fun nq => root_any RB (wB.drewN nq) (HEB.out.drewN nq).inv o (relL S T) (atI T r) 0 HMB.out)
          have HK2 := Lib.hid (fun nq => at_any RB (wB.drewN nq) (HEB.out.drewN nq).inv q T HQB.out r)
          simp only [hrr] at HK1 HK2
          obtain ⟨x0, x1, x2⟩ := HX.out _ _ HEB.out
          have hbr : (rr != rr) = false := by simp
          clear hrr HRn
          go_wp2_with fail
          go_quiet (first | (go_at_call 70; refine (HK1.out _).mono ?_; rintro e w' ⟨rfl, rfl⟩; exact ⟨rfl, _, rfl⟩) | (go_at_call 71; refine (HK2.out _).mono ?_; rintro e w' ⟨rfl, rfl⟩; exact ⟨rfl, _, rfl⟩))
          obtain ⟨wC, hwC⟩ : ∃ wC, wC = wB.drewN nq := ⟨_, rfl⟩
          have HEC : Hid (Ev R2 w3 RB wC) := Lib.hid (by rw [hwC]; exact HEB.out.drewN nq)
          have HOC : Hid (OwnI RB w4.heap.size 3 wC (.slice a6 D c6) (toI T)) := Lib.hid (by rw [hwC]; exact HOB.out)
          rw [← hwC]
          clear hwC HEB HOB HK1 HK2 x0 x1 x2
          obtain ⟨x0, x1, x2⟩ := HX.out _ _ HEC.out
          have hDS : D = S.length := HSD.out.symm
          rw [show S.length = D from HSD.out] at x0
          go_wp2_with fail
          go_loopg [135] D (fun g v135 wr2 => ∃ (d : Nat), d ≤ D ∧ D - d ≤ g ∧ v135 = .int .i64 (d : Int) ∧ Ev RB wC RB wr2)
          case atStart => exact ⟨0, Nat.zero_le _, by omega, rfl, Ev.refl HEC.out.inv⟩
          case round =>
            clear x0 x1 x2
            obtain ⟨d, hdD, hg, rfl, hev⟩ := hrel
            have HEd := Lib.hid hev
            clear hev
            by_cases hdl : d < D
            · have HEz := Lib.hid (HEC.out.trans HEd.out)
              obtain ⟨x0, x1, x2⟩ := HX.out _ _ HEz.out
              have hlS : d < S.length := by rw [HSD.out]; exact hdl
              have hlT : d < T.length := by rw [HTl.out]; exact hdl
              have hTS : T.length = S.length := by rw [HTl.out, HSD.out]
              have hsl := HS.out.lt hlS
              have hpl := (phiL_perm HS.out HEv.out).lt (i := d) (by rw [phiL_length]; exact hlS)
              rw [phiL_length] at hpl
              have htl2 := HTp.out.lt hlT
              obtain ⟨g6, e6, _, _, l0, _⟩ := (HOC.out.ev HEd.out).headAt (xs := toI T) (by rw [toI_length, HTl.out]) hdl
              subst e6
              obtain ⟨_, e1, _, _, l1, _⟩ := (HOC.out.ev HEd.out).headAt (xs := toI T) (by rw [toI_length, HTl.out]) (i := at' S d) (by rw [← HSD.out]; exact hsl)
              cases e1
              obtain ⟨_, e1, _, _, l2, _⟩ := (HOC.out.ev HEd.out).headAt (xs := toI T) (by rw [toI_length, HTl.out]) (i := at' (phiL S) d) (by rw [← HSD.out]; exact hpl)
              cases e1
              obtain ⟨bS, oS, e2, s0⟩ := (HF3.out.ev HEz.out).at hlS
              subst e2
              rw [toI_nth] at l0 l1 l2
              have e1 : atI (relL S T) ((at' T d : Nat) : Int) = ((at' T (at' S d) : Nat) : Int) := by rw [atI_in (by rw [relL_length, ← hTS]; exact htl2), relL_to HTp.out hTS hlS]
              have e2 : atI (phiL (relL S T)) ((at' T d : Nat) : Int) = ((at' T (at' (phiL S) d) : Nat) : Int) := by rw [phi_rel HEv.out HTp.out hTS HTm.out, atI_in (by rw [relL_length, phiL_length, ← hTS]; exact htl2), relL_to HTp.out (by rw [phiL_length]; exact hTS) (by rw [phiL_length]; exact hlS)]
              have e3 : atI (phiL S) ((d : Nat) : Int) = ((at' (phiL S) d : Nat) : Int) := atI_in (by rw [phiL_length]; exact hlS)
              have h1 := fun nq => sigma_any RB (wr.drewN nq) (HEz.out.drewN nq).inv o (relL S T) (atI T r) 0 HMB.out ((at' T d : Nat) : Int)
              have h2 := fun nq => phi_any RB (wr.drewN nq) (HEz.out.drewN nq).inv o (relL S T) (atI T r) 0 HMB.out ((at' T d : Nat) : Int)
              have h3 := fun nq => phi_any RB (wr.drewN nq) (HEz.out.drewN nq).inv p S r 0 (HEz.out.map HP3.out) ((d : Nat) : Int)
              rw [e1] at h1
              rw [e2] at h2
              rw [e3] at h3
              obtain ⟨td, htd⟩ : ∃ k, at' T d = k := ⟨_, rfl⟩
              obtain ⟨sd, hsd⟩ : ∃ k, at' S d = k := ⟨_, rfl⟩
              obtain ⟨pd, hpd⟩ : ∃ k, at' (phiL S) d = k := ⟨_, rfl⟩
              rw [htd] at h1 h2 l0
              rw [hsd] at h1 l1 s0 hsl
              rw [hpd] at h2 h3 l2 hpl
              obtain ⟨uu, huu⟩ : ∃ k, at' T sd = k := ⟨_, rfl⟩
              obtain ⟨vv, hvv⟩ : ∃ k, at' T pd = k := ⟨_, rfl⟩
              rw [huu] at h1 l1
              rw [hvv] at h2 l2
              have HH1 := Lib.hid h1
              have HH2 := Lib.hid h2
              have HH3 := Lib.hid h3
              have bu : ((uu : Int) != (uu : Int)) = false := by simp
              have bv : ((vv : Int) != (vv : Int)) = false := by simp
              rw [HSD.out] at hsl hpl
              have j1 : (sd : Int) < (D : Int) := by omega
              have j2 : (pd : Int) < (D : Int) := by omega
              have j3 : (d : Int) < (D : Int) := by omega
              have x0' := x0
              rw [HSD.out] at x0'
              clear x0 h1 h2 h3 e1 e2 e3 htd hsd hpd huu hvv htl2 hTS hlT
              go_wp2_with fail
              go_quiet (first | (go_at_call 72; refine (HH1.out _).mono ?_; rintro e w' ⟨rfl, rfl⟩; exact ⟨rfl, _, rfl⟩) | (go_at_call 73; first | ((with_reducible refine (HH2.out _).mono ?_); rintro e w' ⟨rfl, rfl⟩; exact ⟨rfl, _, rfl⟩) | ((with_reducible refine (HH3.out _).mono ?_); rintro e w' ⟨rfl, rfl⟩; exact ⟨rfl, _, rfl⟩)))
              go_wp2_with fail
              go_roundg (D - (d + 1))
              case measure => omega
              case rel => exact ⟨d + 1, by omega, by omega, by go_num, HEd.out.drewN _⟩
            · obtain rfl : d = D := by omega
              have HEz := Lib.hid (HEC.out.trans HEd.out)
              have HIv := Lib.hid (pinv_any RB wr HEz.out.inv q T HQB.out)
              have HTS : Hid (T.length = S.length) := Lib.hid (by rw [HTl.out, HSD.out])
              have HRp := Lib.hid (relL_perm HS.out HTp.out HTS.out)
              have HRB := Lib.hid (rel_back HS.out HTp.out HTS.out)
              have HRo := Lib.hid (root_back HS.out HTp.out HTS.out (r := r) (by have := HOk.out.2.2.2.2; omega))
              have HGe := Lib.hid (genusL_rel HS.out HEv.out HTp.out HTS.out HTm.out)
              have HDb := Lib.hid (dblsL_rel HS.out HEv.out HTp.out HTS.out HTm.out)
              have HIp := Lib.hid (invL_perm HTp.out)
              have HIm := Lib.hid (inv_mates HTp.out (by rw [HTS.out]; exact HEv.out) HTm.out)
              clear hg hdl
              go_wp2_with fail
              refine HIv.out.mono ?_
              rintro e wD ⟨qi, RD, rfl, heD, hqi⟩
              have HED := Lib.hid (HEz.out.trans heD)
              have HMD := Lib.hid (heD.map HMB.out)
              have hrb := relabel_yes RD wD heD.inv o qi (relL S T) (invL T) (atI T r) 0 (heD.map HMB.out) hqi HIp.out (by rw [invL_length, relL_length]; exact HTS.out) HIm.out
              rw [HRB.out, HRo.out] at hrb
              have HRb := Lib.hid hrb
              clear heD hqi hrb HIv
              go_wp2_with fail
              refine HRb.out.mono ?_
              rintro e wE ⟨bk, RE, rfl, heE, hbk⟩
              have HEE := Lib.hid (HED.out.trans heE)
              have HME := Lib.hid (heE.map HMD.out)
              have hsm := msame_any RE wE heE.inv bk p S S r r 0 0 hbk (HEE.out.map HP3.out)
              rw [show sameB S S r r 0 0 = true by simp [sameB]] at hsm
              have HSm := Lib.hid hsm
              clear heE hbk hsm HRb
              go_wp2_with fail
              refine HSm.out.mono ?_
              rintro e wF ⟨rfl, heF⟩
              have HEF := Lib.hid (HEE.out.trans heF)
              have HMF := Lib.hid (heF.map HME.out)
              have hg1 := egenus_any RE wF HEF.out.inv o (relL S T) (atI T r) 0 HMF.out
              rw [HGe.out] at hg1
              obtain ⟨gg, hgg⟩ : ∃ g, genusL S = g := ⟨_, rfl⟩
              rw [hgg] at hg1
              have HGG := Lib.hid hgg
              have HG1 := Lib.hid hg1
              have bgg : (gg == gg) = true := by simp
              clear heF hg1 hgg HSm
              go_wp2_with fail
              refine HG1.out.mono ?_
              rintro e wG ⟨rfl, RG, heG⟩
              have HEG := Lib.hid (HEF.out.trans heG)
              have HMG := Lib.hid (heG.map HMF.out)
              have hg2 := egenus_any RG wG HEG.out.inv p S r 0 (HEG.out.map HP3.out)
              rw [HGG.out] at hg2
              have HG2 := Lib.hid hg2
              clear heG hg2 HG1
              go_wp2_with fail
              refine HG2.out.mono ?_
              rintro e wH ⟨rfl, RH, heH⟩
              have HEH := Lib.hid (HEG.out.trans heH)
              have HMH := Lib.hid (heH.map HMG.out)
              have hg1 := edoubles_any RH wH HEH.out.inv o (relL S T) (atI T r) 0 HMH.out
              rw [HDb.out] at hg1
              obtain ⟨dd, hdd⟩ : ∃ g, dblsL S = g := ⟨_, rfl⟩
              rw [hdd] at hg1
              have HDD := Lib.hid hdd
              have HG3 := Lib.hid hg1
              have bdd : ((dd : Int) == (dd : Int)) = true := by simp
              clear heH hg1 hdd HG2
              go_wp2_with fail
              refine HG3.out.mono ?_
              rintro e wI ⟨rfl, RI, heI⟩
              have HEI := Lib.hid (HEH.out.trans heI)
              have hg2 := edoubles_any RI wI HEI.out.inv p S r 0 (HEI.out.map HP3.out)
              rw [HDD.out] at hg2
              have HG4 := Lib.hid hg2
              clear heI hg2 HG3
              go_wp2_with fail
              refine HG4.out.mono ?_
              rintro e wJ ⟨rfl, RJ, heJ⟩
              have HEJ := Lib.hid (HEI.out.trans heJ)
              clear heJ
              go_wp2_with fail
              go_ret
              exact ⟨by first | rfl | (simp; done), RJ, HE3.out.trans HEJ.out⟩
      · have hdw : decide ((2 : Int) < ((D : Nat) : Int)) = false := by simp; omega
        have hdw2 : ¬ (2 : Int) < ((D : Nat) : Int) := by omega
        cases wg with
        | true =>
          have HOf := Lib.hid (of_yes R2 wr HE40.out.inv _ T HO6.out.ints HTp.out (by rw [HTl.out]; omega))
          go_wp2_with fail
          refine HOf.out.mono ?_
          rintro e w8 ⟨q, R8, rfl, he8, hq⟩
          have HE9 := Lib.hid (HE40.out.trans he8)
          have HO8 := Lib.hid (HO6.out.ev he8)
          have HQ8 := Lib.hid hq
          have HRl := Lib.hid (relabel_yes R8 w8 he8.inv p q S T r 0 (HE9.out.map HP3.out) hq HTp.out (by rw [HTl.out, HSD.out]) HTm.out)
          clear he8 hq HOf HE40 HDa
          go_wp2_with fail
          refine HRl.out.mono ?_
          rintro e w9 ⟨o, R9, rfl, he9, ho9⟩
          have HEA := Lib.hid (HE9.out.trans he9)
          have HO9 := Lib.hid (HO8.out.ev he9)
          have HQ9 := Lib.hid (he9.perm HQ8.out)
          have HM9 := Lib.hid ho9
          clear he9 ho9 HRl HO8 HQ8
          go_wp2_with fail
          have hdd := darts_any R9 w9 HEA.out.inv p S r 0 (HEA.out.map HP3.out)
          rw [HSD.out] at hdd
          refine hdd.mono ?_
          rintro e w' ⟨rfl, rfl⟩
          have hon := one_any R9 w9 HEA.out.inv (D + 1) (by omega)
          have HOn := Lib.hid hon
          have hwp : IntKind.i64.wrap ((D : Int) + 1) = ((D + 1 : Nat) : Int) := by rw [show (D : Int) + 1 = ((D + 1 : Nat) : Int) by omega]; exact IntWalk.i64_in _ (by omega)
          clear hon hdd
          go_wp2_with fail
          refine HOn.out.mono ?_
          rintro e wB ⟨qo, RB, rfl, heB, hqo⟩
          have HEB := Lib.hid (HEA.out.trans heB)
          have HOB := Lib.hid (HO9.out.ev heB)
          have HQB := Lib.hid (heB.perm HQ9.out)
          have HMB := Lib.hid (heB.map HM9.out)
          have HRn := Lib.hid (relabel_len RB wB heB.inv p qo S _ r 0 (HEB.out.map HP3.out) hqo (by rw [List.length_range, HSD.out]; omega))
          clear heB hqo HOn HO9 HQ9 HM9
          go_wp2_with fail
          refine HRn.out.mono ?_
          rintro e w' ⟨rfl, rfl⟩
          obtain ⟨rr, hrr⟩ : ∃ x, atI T r = x := ⟨_, rfl⟩
          have HRr := Lib.hid hrr
          have HK1 := Lib.hid (fun nq => root_any RB (wB.drewN nq) (HEB.out.drewN nq).inv o (relL S T) (atI T r) 0 HMB.out)
          have HK2 := Lib.hid (fun nq => at_any RB (wB.drewN nq) (HEB.out.drewN nq).inv q T HQB.out r)
          simp only [hrr] at HK1 HK2
          obtain ⟨x0, x1, x2⟩ := HX.out _ _ HEB.out
          have hbr : (rr != rr) = false := by simp
          clear hrr HRn
          go_wp2_with fail
          go_quiet (first | (go_at_call 70; refine (HK1.out _).mono ?_; rintro e w' ⟨rfl, rfl⟩; exact ⟨rfl, _, rfl⟩) | (go_at_call 71; refine (HK2.out _).mono ?_; rintro e w' ⟨rfl, rfl⟩; exact ⟨rfl, _, rfl⟩))
          obtain ⟨wC, hwC⟩ : ∃ wC, wC = wB.drewN nq := ⟨_, rfl⟩
          have HEC : Hid (Ev R2 w3 RB wC) := Lib.hid (by rw [hwC]; exact HEB.out.drewN nq)
          have HOC : Hid (OwnI RB w4.heap.size 3 wC (.slice a6 D c6) (toI T)) := Lib.hid (by rw [hwC]; exact HOB.out)
          rw [← hwC]
          clear hwC HEB HOB HK1 HK2 x0 x1 x2
          obtain ⟨x0, x1, x2⟩ := HX.out _ _ HEC.out
          have hDS : D = S.length := HSD.out.symm
          rw [show S.length = D from HSD.out] at x0
          go_wp2_with fail
          go_loopg [135] D (fun g v135 wr2 => ∃ (d : Nat), d ≤ D ∧ D - d ≤ g ∧ v135 = .int .i64 (d : Int) ∧ Ev RB wC RB wr2)
          case atStart => exact ⟨0, Nat.zero_le _, by omega, rfl, Ev.refl HEC.out.inv⟩
          case round =>
            clear x0 x1 x2
            obtain ⟨d, hdD, hg, rfl, hev⟩ := hrel
            have HEd := Lib.hid hev
            clear hev
            by_cases hdl : d < D
            · have HEz := Lib.hid (HEC.out.trans HEd.out)
              obtain ⟨x0, x1, x2⟩ := HX.out _ _ HEz.out
              have hlS : d < S.length := by rw [HSD.out]; exact hdl
              have hlT : d < T.length := by rw [HTl.out]; exact hdl
              have hTS : T.length = S.length := by rw [HTl.out, HSD.out]
              have hsl := HS.out.lt hlS
              have hpl := (phiL_perm HS.out HEv.out).lt (i := d) (by rw [phiL_length]; exact hlS)
              rw [phiL_length] at hpl
              have htl2 := HTp.out.lt hlT
              obtain ⟨g6, e6, _, _, l0, _⟩ := (HOC.out.ev HEd.out).headAt (xs := toI T) (by rw [toI_length, HTl.out]) hdl
              subst e6
              obtain ⟨_, e1, _, _, l1, _⟩ := (HOC.out.ev HEd.out).headAt (xs := toI T) (by rw [toI_length, HTl.out]) (i := at' S d) (by rw [← HSD.out]; exact hsl)
              cases e1
              obtain ⟨_, e1, _, _, l2, _⟩ := (HOC.out.ev HEd.out).headAt (xs := toI T) (by rw [toI_length, HTl.out]) (i := at' (phiL S) d) (by rw [← HSD.out]; exact hpl)
              cases e1
              obtain ⟨bS, oS, e2, s0⟩ := (HF3.out.ev HEz.out).at hlS
              subst e2
              rw [toI_nth] at l0 l1 l2
              have e1 : atI (relL S T) ((at' T d : Nat) : Int) = ((at' T (at' S d) : Nat) : Int) := by rw [atI_in (by rw [relL_length, ← hTS]; exact htl2), relL_to HTp.out hTS hlS]
              have e2 : atI (phiL (relL S T)) ((at' T d : Nat) : Int) = ((at' T (at' (phiL S) d) : Nat) : Int) := by rw [phi_rel HEv.out HTp.out hTS HTm.out, atI_in (by rw [relL_length, phiL_length, ← hTS]; exact htl2), relL_to HTp.out (by rw [phiL_length]; exact hTS) (by rw [phiL_length]; exact hlS)]
              have e3 : atI (phiL S) ((d : Nat) : Int) = ((at' (phiL S) d : Nat) : Int) := atI_in (by rw [phiL_length]; exact hlS)
              have h1 := fun nq => sigma_any RB (wr.drewN nq) (HEz.out.drewN nq).inv o (relL S T) (atI T r) 0 HMB.out ((at' T d : Nat) : Int)
              have h2 := fun nq => phi_any RB (wr.drewN nq) (HEz.out.drewN nq).inv o (relL S T) (atI T r) 0 HMB.out ((at' T d : Nat) : Int)
              have h3 := fun nq => phi_any RB (wr.drewN nq) (HEz.out.drewN nq).inv p S r 0 (HEz.out.map HP3.out) ((d : Nat) : Int)
              rw [e1] at h1
              rw [e2] at h2
              rw [e3] at h3
              obtain ⟨td, htd⟩ : ∃ k, at' T d = k := ⟨_, rfl⟩
              obtain ⟨sd, hsd⟩ : ∃ k, at' S d = k := ⟨_, rfl⟩
              obtain ⟨pd, hpd⟩ : ∃ k, at' (phiL S) d = k := ⟨_, rfl⟩
              rw [htd] at h1 h2 l0
              rw [hsd] at h1 l1 s0 hsl
              rw [hpd] at h2 h3 l2 hpl
              obtain ⟨uu, huu⟩ : ∃ k, at' T sd = k := ⟨_, rfl⟩
              obtain ⟨vv, hvv⟩ : ∃ k, at' T pd = k := ⟨_, rfl⟩
              rw [huu] at h1 l1
              rw [hvv] at h2 l2
              have HH1 := Lib.hid h1
              have HH2 := Lib.hid h2
              have HH3 := Lib.hid h3
              have bu : ((uu : Int) != (uu : Int)) = false := by simp
              have bv : ((vv : Int) != (vv : Int)) = false := by simp
              rw [HSD.out] at hsl hpl
              have j1 : (sd : Int) < (D : Int) := by omega
              have j2 : (pd : Int) < (D : Int) := by omega
              have j3 : (d : Int) < (D : Int) := by omega
              have x0' := x0
              rw [HSD.out] at x0'
              clear x0 h1 h2 h3 e1 e2 e3 htd hsd hpd huu hvv htl2 hTS hlT
              go_wp2_with fail
              go_quiet (first | (go_at_call 72; refine (HH1.out _).mono ?_; rintro e w' ⟨rfl, rfl⟩; exact ⟨rfl, _, rfl⟩) | (go_at_call 73; first | ((with_reducible refine (HH2.out _).mono ?_); rintro e w' ⟨rfl, rfl⟩; exact ⟨rfl, _, rfl⟩) | ((with_reducible refine (HH3.out _).mono ?_); rintro e w' ⟨rfl, rfl⟩; exact ⟨rfl, _, rfl⟩)))
              go_wp2_with fail
              go_roundg (D - (d + 1))
              case measure => omega
              case rel => exact ⟨d + 1, by omega, by omega, by go_num, HEd.out.drewN _⟩
            · obtain rfl : d = D := by omega
              have HEz := Lib.hid (HEC.out.trans HEd.out)
              have HIv := Lib.hid (pinv_any RB wr HEz.out.inv q T HQB.out)
              have HTS : Hid (T.length = S.length) := Lib.hid (by rw [HTl.out, HSD.out])
              have HRp := Lib.hid (relL_perm HS.out HTp.out HTS.out)
              have HRB := Lib.hid (rel_back HS.out HTp.out HTS.out)
              have HRo := Lib.hid (root_back HS.out HTp.out HTS.out (r := r) (by have := HOk.out.2.2.2.2; omega))
              have HGe := Lib.hid (genusL_rel HS.out HEv.out HTp.out HTS.out HTm.out)
              have HDb := Lib.hid (dblsL_rel HS.out HEv.out HTp.out HTS.out HTm.out)
              have HIp := Lib.hid (invL_perm HTp.out)
              have HIm := Lib.hid (inv_mates HTp.out (by rw [HTS.out]; exact HEv.out) HTm.out)
              clear hg hdl
              go_wp2_with fail
              refine HIv.out.mono ?_
              rintro e wD ⟨qi, RD, rfl, heD, hqi⟩
              have HED := Lib.hid (HEz.out.trans heD)
              have HMD := Lib.hid (heD.map HMB.out)
              have hrb := relabel_yes RD wD heD.inv o qi (relL S T) (invL T) (atI T r) 0 (heD.map HMB.out) hqi HIp.out (by rw [invL_length, relL_length]; exact HTS.out) HIm.out
              rw [HRB.out, HRo.out] at hrb
              have HRb := Lib.hid hrb
              clear heD hqi hrb HIv
              go_wp2_with fail
              refine HRb.out.mono ?_
              rintro e wE ⟨bk, RE, rfl, heE, hbk⟩
              have HEE := Lib.hid (HED.out.trans heE)
              have HME := Lib.hid (heE.map HMD.out)
              have hsm := msame_any RE wE heE.inv bk p S S r r 0 0 hbk (HEE.out.map HP3.out)
              rw [show sameB S S r r 0 0 = true by simp [sameB]] at hsm
              have HSm := Lib.hid hsm
              clear heE hbk hsm HRb
              go_wp2_with fail
              refine HSm.out.mono ?_
              rintro e wF ⟨rfl, heF⟩
              have HEF := Lib.hid (HEE.out.trans heF)
              have HMF := Lib.hid (heF.map HME.out)
              have hg1 := egenus_any RE wF HEF.out.inv o (relL S T) (atI T r) 0 HMF.out
              rw [HGe.out] at hg1
              obtain ⟨gg, hgg⟩ : ∃ g, genusL S = g := ⟨_, rfl⟩
              rw [hgg] at hg1
              have HGG := Lib.hid hgg
              have HG1 := Lib.hid hg1
              have bgg : (gg == gg) = true := by simp
              clear heF hg1 hgg HSm
              go_wp2_with fail
              refine HG1.out.mono ?_
              rintro e wG ⟨rfl, RG, heG⟩
              have HEG := Lib.hid (HEF.out.trans heG)
              have HMG := Lib.hid (heG.map HMF.out)
              have hg2 := egenus_any RG wG HEG.out.inv p S r 0 (HEG.out.map HP3.out)
              rw [HGG.out] at hg2
              have HG2 := Lib.hid hg2
              clear heG hg2 HG1
              go_wp2_with fail
              refine HG2.out.mono ?_
              rintro e wH ⟨rfl, RH, heH⟩
              have HEH := Lib.hid (HEG.out.trans heH)
              have HMH := Lib.hid (heH.map HMG.out)
              have hg1 := edoubles_any RH wH HEH.out.inv o (relL S T) (atI T r) 0 HMH.out
              rw [HDb.out] at hg1
              obtain ⟨dd, hdd⟩ : ∃ g, dblsL S = g := ⟨_, rfl⟩
              rw [hdd] at hg1
              have HDD := Lib.hid hdd
              have HG3 := Lib.hid hg1
              have bdd : ((dd : Int) == (dd : Int)) = true := by simp
              clear heH hg1 hdd HG2
              go_wp2_with fail
              refine HG3.out.mono ?_
              rintro e wI ⟨rfl, RI, heI⟩
              have HEI := Lib.hid (HEH.out.trans heI)
              have hg2 := edoubles_any RI wI HEI.out.inv p S r 0 (HEI.out.map HP3.out)
              rw [HDD.out] at hg2
              have HG4 := Lib.hid hg2
              clear heI hg2 HG3
              go_wp2_with fail
              refine HG4.out.mono ?_
              rintro e wJ ⟨rfl, RJ, heJ⟩
              have HEJ := Lib.hid (HEI.out.trans heJ)
              clear heJ
              go_wp2_with fail
              go_ret
              exact ⟨by first | rfl | (simp; done), RJ, HE3.out.trans HEJ.out⟩
        | false =>
          have HOf := Lib.hid (of_yes R2 wr HE40.out.inv _ T HO6.out.ints HTp.out (by rw [HTl.out]; omega))
          go_wp2_with fail
          refine HOf.out.mono ?_
          rintro e w8 ⟨q, R8, rfl, he8, hq⟩
          have HE9 := Lib.hid (HE40.out.trans he8)
          have HO8 := Lib.hid (HO6.out.ev he8)
          have HQ8 := Lib.hid hq
          have HRl := Lib.hid (relabel_yes R8 w8 he8.inv p q S T r 0 (HE9.out.map HP3.out) hq HTp.out (by rw [HTl.out, HSD.out]) HTm.out)
          clear he8 hq HOf HE40 HDa
          go_wp2_with fail
          refine HRl.out.mono ?_
          rintro e w9 ⟨o, R9, rfl, he9, ho9⟩
          have HEA := Lib.hid (HE9.out.trans he9)
          have HO9 := Lib.hid (HO8.out.ev he9)
          have HQ9 := Lib.hid (he9.perm HQ8.out)
          have HM9 := Lib.hid ho9
          clear he9 ho9 HRl HO8 HQ8
          go_wp2_with fail
          have hdd := darts_any R9 w9 HEA.out.inv p S r 0 (HEA.out.map HP3.out)
          rw [HSD.out] at hdd
          refine hdd.mono ?_
          rintro e w' ⟨rfl, rfl⟩
          have hon := one_any R9 w9 HEA.out.inv (D + 1) (by omega)
          have HOn := Lib.hid hon
          have hwp : IntKind.i64.wrap ((D : Int) + 1) = ((D + 1 : Nat) : Int) := by rw [show (D : Int) + 1 = ((D + 1 : Nat) : Int) by omega]; exact IntWalk.i64_in _ (by omega)
          clear hon hdd
          go_wp2_with fail
          refine HOn.out.mono ?_
          rintro e wB ⟨qo, RB, rfl, heB, hqo⟩
          have HEB := Lib.hid (HEA.out.trans heB)
          have HOB := Lib.hid (HO9.out.ev heB)
          have HQB := Lib.hid (heB.perm HQ9.out)
          have HMB := Lib.hid (heB.map HM9.out)
          have HRn := Lib.hid (relabel_len RB wB heB.inv p qo S _ r 0 (HEB.out.map HP3.out) hqo (by rw [List.length_range, HSD.out]; omega))
          clear heB hqo HOn HO9 HQ9 HM9
          go_wp2_with fail
          refine HRn.out.mono ?_
          rintro e w' ⟨rfl, rfl⟩
          obtain ⟨rr, hrr⟩ : ∃ x, atI T r = x := ⟨_, rfl⟩
          have HRr := Lib.hid hrr
          have HK1 := Lib.hid (fun nq => root_any RB (wB.drewN nq) (HEB.out.drewN nq).inv o (relL S T) (atI T r) 0 HMB.out)
          have HK2 := Lib.hid (fun nq => at_any RB (wB.drewN nq) (HEB.out.drewN nq).inv q T HQB.out r)
          simp only [hrr] at HK1 HK2
          obtain ⟨x0, x1, x2⟩ := HX.out _ _ HEB.out
          have hbr : (rr != rr) = false := by simp
          clear hrr HRn
          go_wp2_with fail
          go_quiet (first | (go_at_call 70; refine (HK1.out _).mono ?_; rintro e w' ⟨rfl, rfl⟩; exact ⟨rfl, _, rfl⟩) | (go_at_call 71; refine (HK2.out _).mono ?_; rintro e w' ⟨rfl, rfl⟩; exact ⟨rfl, _, rfl⟩))
          obtain ⟨wC, hwC⟩ : ∃ wC, wC = wB.drewN nq := ⟨_, rfl⟩
          have HEC : Hid (Ev R2 w3 RB wC) := Lib.hid (by rw [hwC]; exact HEB.out.drewN nq)
          have HOC : Hid (OwnI RB w4.heap.size 3 wC (.slice a6 D c6) (toI T)) := Lib.hid (by rw [hwC]; exact HOB.out)
          rw [← hwC]
          clear hwC HEB HOB HK1 HK2 x0 x1 x2
          obtain ⟨x0, x1, x2⟩ := HX.out _ _ HEC.out
          have hDS : D = S.length := HSD.out.symm
          rw [show S.length = D from HSD.out] at x0
          go_wp2_with fail
          go_loopg [135] D (fun g v135 wr2 => ∃ (d : Nat), d ≤ D ∧ D - d ≤ g ∧ v135 = .int .i64 (d : Int) ∧ Ev RB wC RB wr2)
          case atStart => exact ⟨0, Nat.zero_le _, by omega, rfl, Ev.refl HEC.out.inv⟩
          case round =>
            clear x0 x1 x2
            obtain ⟨d, hdD, hg, rfl, hev⟩ := hrel
            have HEd := Lib.hid hev
            clear hev
            by_cases hdl : d < D
            · have HEz := Lib.hid (HEC.out.trans HEd.out)
              obtain ⟨x0, x1, x2⟩ := HX.out _ _ HEz.out
              have hlS : d < S.length := by rw [HSD.out]; exact hdl
              have hlT : d < T.length := by rw [HTl.out]; exact hdl
              have hTS : T.length = S.length := by rw [HTl.out, HSD.out]
              have hsl := HS.out.lt hlS
              have hpl := (phiL_perm HS.out HEv.out).lt (i := d) (by rw [phiL_length]; exact hlS)
              rw [phiL_length] at hpl
              have htl2 := HTp.out.lt hlT
              obtain ⟨g6, e6, _, _, l0, _⟩ := (HOC.out.ev HEd.out).headAt (xs := toI T) (by rw [toI_length, HTl.out]) hdl
              subst e6
              obtain ⟨_, e1, _, _, l1, _⟩ := (HOC.out.ev HEd.out).headAt (xs := toI T) (by rw [toI_length, HTl.out]) (i := at' S d) (by rw [← HSD.out]; exact hsl)
              cases e1
              obtain ⟨_, e1, _, _, l2, _⟩ := (HOC.out.ev HEd.out).headAt (xs := toI T) (by rw [toI_length, HTl.out]) (i := at' (phiL S) d) (by rw [← HSD.out]; exact hpl)
              cases e1
              obtain ⟨bS, oS, e2, s0⟩ := (HF3.out.ev HEz.out).at hlS
              subst e2
              rw [toI_nth] at l0 l1 l2
              have e1 : atI (relL S T) ((at' T d : Nat) : Int) = ((at' T (at' S d) : Nat) : Int) := by rw [atI_in (by rw [relL_length, ← hTS]; exact htl2), relL_to HTp.out hTS hlS]
              have e2 : atI (phiL (relL S T)) ((at' T d : Nat) : Int) = ((at' T (at' (phiL S) d) : Nat) : Int) := by rw [phi_rel HEv.out HTp.out hTS HTm.out, atI_in (by rw [relL_length, phiL_length, ← hTS]; exact htl2), relL_to HTp.out (by rw [phiL_length]; exact hTS) (by rw [phiL_length]; exact hlS)]
              have e3 : atI (phiL S) ((d : Nat) : Int) = ((at' (phiL S) d : Nat) : Int) := atI_in (by rw [phiL_length]; exact hlS)
              have h1 := fun nq => sigma_any RB (wr.drewN nq) (HEz.out.drewN nq).inv o (relL S T) (atI T r) 0 HMB.out ((at' T d : Nat) : Int)
              have h2 := fun nq => phi_any RB (wr.drewN nq) (HEz.out.drewN nq).inv o (relL S T) (atI T r) 0 HMB.out ((at' T d : Nat) : Int)
              have h3 := fun nq => phi_any RB (wr.drewN nq) (HEz.out.drewN nq).inv p S r 0 (HEz.out.map HP3.out) ((d : Nat) : Int)
              rw [e1] at h1
              rw [e2] at h2
              rw [e3] at h3
              obtain ⟨td, htd⟩ : ∃ k, at' T d = k := ⟨_, rfl⟩
              obtain ⟨sd, hsd⟩ : ∃ k, at' S d = k := ⟨_, rfl⟩
              obtain ⟨pd, hpd⟩ : ∃ k, at' (phiL S) d = k := ⟨_, rfl⟩
              rw [htd] at h1 h2 l0
              rw [hsd] at h1 l1 s0 hsl
              rw [hpd] at h2 h3 l2 hpl
              obtain ⟨uu, huu⟩ : ∃ k, at' T sd = k := ⟨_, rfl⟩
              obtain ⟨vv, hvv⟩ : ∃ k, at' T pd = k := ⟨_, rfl⟩
              rw [huu] at h1 l1
              rw [hvv] at h2 l2
              have HH1 := Lib.hid h1
              have HH2 := Lib.hid h2
              have HH3 := Lib.hid h3
              have bu : ((uu : Int) != (uu : Int)) = false := by simp
              have bv : ((vv : Int) != (vv : Int)) = false := by simp
              rw [HSD.out] at hsl hpl
              have j1 : (sd : Int) < (D : Int) := by omega
              have j2 : (pd : Int) < (D : Int) := by omega
              have j3 : (d : Int) < (D : Int) := by omega
              have x0' := x0
              rw [HSD.out] at x0'
              clear x0 h1 h2 h3 e1 e2 e3 htd hsd hpd huu hvv htl2 hTS hlT
              go_wp2_with fail
              go_quiet (first | (go_at_call 72; refine (HH1.out _).mono ?_; rintro e w' ⟨rfl, rfl⟩; exact ⟨rfl, _, rfl⟩) | (go_at_call 73; first | ((with_reducible refine (HH2.out _).mono ?_); rintro e w' ⟨rfl, rfl⟩; exact ⟨rfl, _, rfl⟩) | ((with_reducible refine (HH3.out _).mono ?_); rintro e w' ⟨rfl, rfl⟩; exact ⟨rfl, _, rfl⟩)))
              go_wp2_with fail
              go_roundg (D - (d + 1))
              case measure => omega
              case rel => exact ⟨d + 1, by omega, by omega, by go_num, HEd.out.drewN _⟩
            · obtain rfl : d = D := by omega
              have HEz := Lib.hid (HEC.out.trans HEd.out)
              have HIv := Lib.hid (pinv_any RB wr HEz.out.inv q T HQB.out)
              have HTS : Hid (T.length = S.length) := Lib.hid (by rw [HTl.out, HSD.out])
              have HRp := Lib.hid (relL_perm HS.out HTp.out HTS.out)
              have HRB := Lib.hid (rel_back HS.out HTp.out HTS.out)
              have HRo := Lib.hid (root_back HS.out HTp.out HTS.out (r := r) (by have := HOk.out.2.2.2.2; omega))
              have HGe := Lib.hid (genusL_rel HS.out HEv.out HTp.out HTS.out HTm.out)
              have HDb := Lib.hid (dblsL_rel HS.out HEv.out HTp.out HTS.out HTm.out)
              have HIp := Lib.hid (invL_perm HTp.out)
              have HIm := Lib.hid (inv_mates HTp.out (by rw [HTS.out]; exact HEv.out) HTm.out)
              clear hg hdl
              go_wp2_with fail
              refine HIv.out.mono ?_
              rintro e wD ⟨qi, RD, rfl, heD, hqi⟩
              have HED := Lib.hid (HEz.out.trans heD)
              have HMD := Lib.hid (heD.map HMB.out)
              have hrb := relabel_yes RD wD heD.inv o qi (relL S T) (invL T) (atI T r) 0 (heD.map HMB.out) hqi HIp.out (by rw [invL_length, relL_length]; exact HTS.out) HIm.out
              rw [HRB.out, HRo.out] at hrb
              have HRb := Lib.hid hrb
              clear heD hqi hrb HIv
              go_wp2_with fail
              refine HRb.out.mono ?_
              rintro e wE ⟨bk, RE, rfl, heE, hbk⟩
              have HEE := Lib.hid (HED.out.trans heE)
              have HME := Lib.hid (heE.map HMD.out)
              have hsm := msame_any RE wE heE.inv bk p S S r r 0 0 hbk (HEE.out.map HP3.out)
              rw [show sameB S S r r 0 0 = true by simp [sameB]] at hsm
              have HSm := Lib.hid hsm
              clear heE hbk hsm HRb
              go_wp2_with fail
              refine HSm.out.mono ?_
              rintro e wF ⟨rfl, heF⟩
              have HEF := Lib.hid (HEE.out.trans heF)
              have HMF := Lib.hid (heF.map HME.out)
              have hg1 := egenus_any RE wF HEF.out.inv o (relL S T) (atI T r) 0 HMF.out
              rw [HGe.out] at hg1
              obtain ⟨gg, hgg⟩ : ∃ g, genusL S = g := ⟨_, rfl⟩
              rw [hgg] at hg1
              have HGG := Lib.hid hgg
              have HG1 := Lib.hid hg1
              have bgg : (gg == gg) = true := by simp
              clear heF hg1 hgg HSm
              go_wp2_with fail
              refine HG1.out.mono ?_
              rintro e wG ⟨rfl, RG, heG⟩
              have HEG := Lib.hid (HEF.out.trans heG)
              have HMG := Lib.hid (heG.map HMF.out)
              have hg2 := egenus_any RG wG HEG.out.inv p S r 0 (HEG.out.map HP3.out)
              rw [HGG.out] at hg2
              have HG2 := Lib.hid hg2
              clear heG hg2 HG1
              go_wp2_with fail
              refine HG2.out.mono ?_
              rintro e wH ⟨rfl, RH, heH⟩
              have HEH := Lib.hid (HEG.out.trans heH)
              have HMH := Lib.hid (heH.map HMG.out)
              have hg1 := edoubles_any RH wH HEH.out.inv o (relL S T) (atI T r) 0 HMH.out
              rw [HDb.out] at hg1
              obtain ⟨dd, hdd⟩ : ∃ g, dblsL S = g := ⟨_, rfl⟩
              rw [hdd] at hg1
              have HDD := Lib.hid hdd
              have HG3 := Lib.hid hg1
              have bdd : ((dd : Int) == (dd : Int)) = true := by simp
              clear heH hg1 hdd HG2
              go_wp2_with fail
              refine HG3.out.mono ?_
              rintro e wI ⟨rfl, RI, heI⟩
              have HEI := Lib.hid (HEH.out.trans heI)
              have hg2 := edoubles_any RI wI HEI.out.inv p S r 0 (HEI.out.map HP3.out)
              rw [HDD.out] at hg2
              have HG4 := Lib.hid hg2
              clear heI hg2 HG3
              go_wp2_with fail
              refine HG4.out.mono ?_
              rintro e wJ ⟨rfl, RJ, heJ⟩
              have HEJ := Lib.hid (HEI.out.trans heJ)
              clear heJ
              go_wp2_with fail
              go_ret
              exact ⟨by first | rfl | (simp; done), RJ, HE3.out.trans HEJ.out⟩

end Go.Proofs.Ytnbecpeiodcohaa
