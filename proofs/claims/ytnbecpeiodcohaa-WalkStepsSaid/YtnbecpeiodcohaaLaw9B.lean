/- parquetrylaw09.WalkSteps, the walk: it answers true. Conditions: the bytes lie in memory. -/
import Derived.Test.YtnbecpeiodcohaaLaw9A
import Derived.Test.YtnbecpeiodcohaaWalkH
import Derived.Test.YtnbecpeiodcohaaRefW
import Derived.Test.YtnbecpeiodcohaaRefT
import Derived.BigQuiet
namespace Go.Proofs.Ytnbecpeiodcohaa
open Go.RowKit
set_option linter.unusedVariables false

theorem nth_dartsW {s : List Nat} {V root n i : Nat} (h : i < n) : nth (dartsW s V root n) i = ((wd s V root i : Nat) : Int) := by simp [nth, dartsW, h]
theorem nth_kindsW {s : List Nat} {V root n i : Nat} (h : i < n) : nth (kindsW s V root n) i = ((wk s V root i : Nat) : Int) := by simp [nth, kindsW, h]
theorem wordL_walk (s : List Nat) (V root : Nat) : ∀ n, wordL (stepL s V root n) = kindsW s V root n
  | 0 => rfl
  | n + 1 => by
    rw [stepL_succ, kindsW_succ, ← wordL_walk s V root n]
    unfold wordL
    rw [List.foldl_append]
    have hk := wk_le s V root n
    show addK _ _ = _
    unfold addK
    rw [if_neg (by simp [badK]; omega)]

set_option maxRecDepth 100000 in
set_option maxHeartbeats 4000000 in
theorem walkSteps_walk (w : World) (n : Nat) (root : Int) (hn : n ≤ 255) (v : Value) (bs : List Nat) (hv : FreeB noReg w v bs) :
    Calls Try.prog 4 #[.int .u8 (n : Int), v, .int .i64 root] w (RetTrue noReg w) := by
  have HA := Lib.hid (awake9_any noReg w (Inv.noReg w))
  have hnot := not_run
  have HV := Lib.hid hv
  have hS := mixL_perm (2 * (n % 14)) bs
  have hSl := mixL_length (2 * (n % 14)) bs
  have HM := Lib.hid (fun R w' (hI : Inv R w') (hv : FreeB R w' v bs) => made9_any R w' hI n hn v bs hv)
  obtain ⟨S, hSe⟩ : ∃ S, mixL (2 * (n % 14)) bs = S := ⟨_, rfl⟩
  obtain ⟨r, hre⟩ : ∃ r, anyRoot (n % 14) 0 = r := ⟨_, rfl⟩
  obtain ⟨m, hm⟩ : ∃ m, 2 * (n % 14) = m := ⟨_, rfl⟩
  have hm26 : m ≤ 26 := by omega
  have hev : m % 2 = 0 := by omega
  rw [hSe, hre] at HM
  rw [hSe, hm] at hSl
  rw [hSe] at hS
  rw [← hSl] at hev hm26
  obtain ⟨a0, c0, rfl, _⟩ := hv
  clear hSe hre hm hSl
  have HS := Lib.hid hS
  have HEv := Lib.hid hev
  clear hS
  go_enter Try.func4, Try.ntmps4
  go_wp2_with fail
  refine HA.out.mono ?_
  rintro e w1 ⟨rfl, R1, he1⟩
  have HE1 := Lib.hid he1
  clear he1
  go_wp2_with fail
  refine (HM.out R1 w1 HE1.out.inv (HV.out.ev HE1.out)).mono ?_
  rintro e w2 ⟨p, a1, c1, R2, rfl, he2, hp2, hf2⟩
  unfold refV
  have hnone : R2 w2.heap.size = none := he2.inv.none_of_ge (Nat.le_refl _)
  have hI3 := he2.inv.alloc (.cells #[.slice a1 S.length c1, .int .i64 r, .int .i64 0] 27)
  have hf3 := hf2.ev ((Ev.refl he2.inv).alloc (.cells #[.slice a1 S.length c1, .int .i64 r, .int .i64 0] 27))
  have HE2 := Lib.hid (HE1.out.trans he2)
  have HP3 := Lib.hid hp2
  have HX := Lib.hid (fun R' w' (h : Ev R2 (w2.alloc (.cells #[.slice a1 S.length c1, .int .i64 r, .int .i64 0] 27)) R' w') => h.ref3 hnone)
  have HF3 := Lib.hid hf3
  have HI3 := Lib.hid hI3
  clear he2 hp2 hf2 hI3 hnone hf3
  go_upto_region 4 with fail
  obtain ⟨w3, hw3⟩ : ∃ w3, w3 = w2.alloc (.cells #[.slice a1 S.length c1, .int .i64 r, .int .i64 0] 27) := ⟨_, rfl⟩
  have HE3 : Hid (Ev noReg w R2 w3) := by rw [hw3]; exact HE2.out.alloc _
  rw [← hw3] at HX HF3 HI3 ⊢
  clear hw3 HE2
  obtain ⟨x0, x1, x2⟩ := HX.out _ _ (Ev.refl HI3.out)
  by_cases hin : 0 ≤ root ∧ root < (S.length : Int)
  · obtain ⟨rt, hrt⟩ : ∃ rt : Nat, root = (rt : Int) := ⟨root.toNat, by omega⟩
    subst hrt
    have hrl : rt < S.length := by omega
    have hP := partC_le S rt
    have HW := Lib.hid (walk_of R2 w3 HI3.out p S r 0 HP3.out rt hrl)
    have hVV : (sizesL S).length + 0 = (sizesL S).length := Nat.add_zero _
    rw [hVV] at HW
    have HRW := Lib.hid (fun R' w' (he : Ev R2 w3 R' w') => rwalk_any R' w' he.inv _ S r 0 (HF3.out.ev he) HS.out (by omega) HEv.out rt hrl)
    have HNm := Lib.hid (fun R' w' (he : Ev R2 w3 R' w') => r8names_any R' w' he.inv _ S r 0 (HF3.out.ev he) HS.out (by omega) HEv.out)
    have HRg := Lib.hid (fun R' w' (he : Ev R2 w3 R' w') a n c ys hv hn => right_walk R' w' he.inv p S r 0 (he.map HP3.out) rt hrl a n c ys hv hn)
    rw [hVV] at HRg
    unfold refV at HRW HNm
    obtain ⟨P, hPe⟩ : ∃ P, partC' S rt = P := ⟨_, rfl⟩
    have HWl := Lib.hid (wlen HS.out HEv.out hrl (V := (sizesL S).length) (Nat.le_refl _))
    have HPt := Lib.hid (fun j hj => wd_part HS.out HEv.out hrl (V := (sizesL S).length) (Nat.le_refl _) (j := j) hj)
    have HWi := Lib.hid (fun j => (winv HS.out HEv.out hrl (V := (sizesL S).length) (Nat.le_refl _) j).lt j (Nat.le_refl _))
    have HDi := Lib.hid (fun i j (hi : i < j) (hj : j < partC' S rt) => wdist HS.out HEv.out hrl (V := (sizesL S).length) (Nat.le_refl _) HWl.out.1 HWl.out.2.2 hi hj)
    have HNl := Lib.hid (partsL_length HS.out HEv.out)
    rw [hPe] at HW HRW HRg hP HPt HDi HWl
    have HPe := Lib.hid hPe
    obtain ⟨V, hV⟩ : ∃ V, (sizesL S).length = V := ⟨_, rfl⟩
    rw [hV] at HW HRW HRg HPt HWi HDi HWl
    have hSt := stepL_length S V rt P
    have HWd := Lib.hid (wordL_walk S V rt P)
    have HKb : Hid (∀ i, i < (kindsW S V rt P).length → 0 ≤ nth (kindsW S V rt P) i ∧ nth (kindsW S V rt P) i ≤ 3) := Lib.hid fun i hi => by
      rw [kindsW_length] at hi
      rw [nth_kindsW hi]
      have := wk_le S V rt i
      omega
    have hDl := dartsW_length S V rt P
    have hKl := kindsW_length S V rt P
    have hLn : ∀ i, i < P → nthS (stepL S V rt P) i = ((wd S V rt i : Int), (wk S V rt i : Int)) := fun i hi => nthS_stepL hi
    have hDn : ∀ i, i < P → nth (dartsW S V rt P) i = ((wd S V rt i : Nat) : Int) := fun i hi => nth_dartsW hi
    have hKn : ∀ i, i < P → nth (kindsW S V rt P) i = ((wk S V rt i : Nat) : Int) := fun i hi => nth_kindsW hi
    have HLn := Lib.hid hLn
    have HDn := Lib.hid hDn
    have HKn := Lib.hid hKn
    obtain ⟨L, hL⟩ : ∃ L, stepL S V rt P = L := ⟨_, rfl⟩
    obtain ⟨D, hD⟩ : ∃ L, dartsW S V rt P = L := ⟨_, rfl⟩
    obtain ⟨K, hK⟩ : ∃ L, kindsW S V rt P = L := ⟨_, rfl⟩
    rw [hL] at HW HRg HWd hSt HLn
    rw [hD] at HRW hDl HDn
    rw [hK] at HRW HWd HKb hKl HKn
    obtain ⟨N, hN⟩ : ∃ N, partsL S = N := ⟨_, rfl⟩
    rw [hN] at HNm HPt HNl
    have HSt := Lib.hid hSt
    have HDl := Lib.hid hDl
    have HKl := Lib.hid hKl
    have q1 : decide ((rt : Int) < 0) = false := by simp
    have q2 : decide (S.length ≤ rt) = false := by simp; omega
    clear hP hVV hPe hV hL hD hK hN hSt hDl hKl hLn hDn hKn x0 x1 x2
    go_wp2_with fail
    refine HW.out.mono ?_
    rintro e w4 ⟨R4, a4, c4, rfl, he4, ho4⟩
    rw [HSt.out] at ho4 ⊢
    have HE4 := Lib.hid he4
    have HF4 := Lib.hid (FreeS.of_own (by rw [HSt.out]; exact ho4))
    clear he4 ho4 HW
    obtain ⟨x0, x1, x2⟩ := HX.out _ _ HE4.out
    have HRW4 := Lib.hid (HRW.out R4 w4 HE4.out)
    clear HRW
    have hPP : ((P : Int) != (P : Int)) = false := by simp
    go_wp2_with fail
    refine HRW4.out.mono ?_
    rintro e w5 ⟨aD, aK, cD, cK, rfl, he5, hoD, hoK⟩
    rw [HDl.out] at hoD ⊢
    rw [HKl.out] at hoK ⊢
    have HE5 := Lib.hid (HE4.out.trans he5)
    have HF5 := Lib.hid (HF4.out.ev he5)
    have HoD := Lib.hid hoD
    have HoK := Lib.hid hoK
    obtain ⟨x0, x1, x2⟩ := HX.out _ _ HE5.out
    have HN5 := Lib.hid (HNm.out _ _ HE5.out)
    clear he5 hoD hoK HRW4 HNm
    go_wp2_with fail
    refine HN5.out.mono ?_
    rintro e w6 ⟨vN, rfl, he6, hoN⟩
    obtain ⟨aN, cN, rfl, _⟩ := hoN.free.open
    rw [HNl.out] at hoN ⊢
    have HE6 := Lib.hid (HE5.out.trans he6)
    have HF6 := Lib.hid (HF5.out.ev he6)
    have HoD6 := Lib.hid (HoD.out.ev he6)
    have HoK6 := Lib.hid (HoK.out.ev he6)
    have HoN6 := Lib.hid hoN
    have HM6 := Lib.hid (FMap.made HE6.out.inv)
    have HE7 := Lib.hid ((Ev.refl HE6.out.inv).alloc (.map #[] 0))
    have hmm := @run_makeMap Try.prog
    clear he6 hoN x0 x1 x2
    go_wp2_with fail
    obtain ⟨b, hb⟩ : ∃ b, w6.heap.size = b := ⟨_, rfl⟩
    rw [hb] at HM6 ⊢
    have HB := Lib.hid hb
    clear hb
    obtain ⟨w7, hw7⟩ : ∃ w7, w7 = w6.alloc (.map #[] 0) := ⟨_, rfl⟩
    rw [← hw7] at HM6 HE7 ⊢
    clear hw7
    have hP26 : P ≤ 26 := by have := partC_le S rt; rw [HPe.out] at this; omega
    go_loopg [73] P (fun g v73 wr => ∃ (j k : Nat) (f : Int → Option Int), j ≤ P ∧ P - j ≤ g ∧ k ≤ j ∧ v73 = .int .i64 (j : Int) ∧ Ev R4 w6 R4 wr ∧ FMap R4 wr b k f j ∧ ∀ y, (f y).isSome = true → ∃ i, i < j ∧ ((wd S V rt i : Nat) : Int) = y)
    case atStart => exact ⟨0, 0, _, by omega, by omega, by omega, rfl, HE7.out, HM6.out, fun y h => by cases h⟩
    case round =>
      obtain ⟨j, k, f, hj, hg, hk, rfl, he, hm, hf⟩ := hrel
      have HE := Lib.hid he
      have HMr := Lib.hid hm
      have HFr := Lib.hid hf
      clear he hm hf
      by_cases hjP : j < P
      · obtain ⟨gs, os, rfl, hgn, k0, k1⟩ := (HF6.out.ev HE.out).at hjP
        rw [HLn.out j hjP] at k0 k1
        simp only at k0 k1
        obtain ⟨gD, rfl, _, _, d0, _⟩ := (HoD6.out.ev HE.out).headAt HDl.out (i := j) hjP
        obtain ⟨gK, rfl, _, _, d1, _⟩ := (HoK6.out.ev HE.out).headAt HKl.out (i := j) hjP
        rw [HDn.out j hjP] at d0
        rw [HKn.out j hjP] at d1
        have hwl := HWi.out j
        obtain ⟨gN, rfl, _, _, d2, _⟩ := (HoN6.out.ev HE.out).headAt HNl.out (i := rt) hrl
        obtain ⟨gN', e1, _, _, d3, _⟩ := (HoN6.out.ev HE.out).headAt HNl.out (i := wd S V rt j) hwl
        cases e1
        rw [HPt.out j hjP] at d3
        have hnot : f ((wd S V rt j : Nat) : Int) = none := by
          cases hfx : f ((wd S V rt j : Nat) : Int) with
          | none => rfl
          | some y =>
            obtain ⟨i, hi, e⟩ := HFr.out _ (by rw [hfx]; rfl)
            exact absurd (by omega) (HDi.out i j hi hjP)
        have hlk := HMr.out.look ((wd S V rt j : Nat) : Int) (by omega)
        rw [hnot] at hlk
        obtain ⟨d, hd⟩ : ∃ d, wd S V rt j = d := ⟨_, rfl⟩
        obtain ⟨kk, hkk⟩ : ∃ d, wk S V rt j = d := ⟨_, rfl⟩
        obtain ⟨q, hq⟩ : ∃ q, nth N rt = q := ⟨_, rfl⟩
        rw [hd] at k0 d0 d3 hnot hlk hwl
        rw [hkk] at k1 d1
        rw [hq] at d2 d3
        have HD := Lib.hid hd
        have HNo := Lib.hid hnot
        have e1 : ((d : Int) != (d : Int)) = false := by simp
        have e2 : ((kk : Int) != (kk : Int)) = false := by simp
        have e3 : (q != q) = false := by simp
        have hgsl := lt_of_cell k0
        have l1 := lt_of_cell d0
        have l2 := lt_of_cell d1
        have l3 := lt_of_cell d2
        have HEa := Lib.hid (HE.out.alloc (.cells #[.int .i64 (d : Int), .int .i64 (kk : Int)] 41))
        have HMa := Lib.hid (HMr.out.alloc (.cells #[.int .i64 (d : Int), .int .i64 (kk : Int)] 41))
        clear hd hkk hq hnot hlk
        go_wp2_with fail
        go_quiet (fail)
        obtain ⟨w8, hw8⟩ : ∃ w8, w8 = (wr.alloc (.cells #[.int .i64 (d : Int), .int .i64 (kk : Int)] 41)).drewN nq := ⟨_, rfl⟩
        have HE8 : Hid (Ev R4 w6 R4 w8) := Lib.hid (by rw [hw8]; exact HEa.out.drewN nq)
        have HM8 : Hid (FMap R4 w8 b k f j) := Lib.hid (by rw [hw8]; exact HMa.out)
        have k8 : w8.cell? ⟨wr.heap.size, 0, none⟩ = some (.int .i64 (d : Int)) := by
          rw [hw8]
          show (wr.alloc _).cell? _ = _
          simp
        rw [← hw8]
        have hlk := HM8.out.look (d : Int) (by omega)
        rw [HNo.out] at hlk
        have hlk' : (Instr.lookup 47 (.map (some b)) (.int .i64 (d : Int)) false).run Try.prog w8 = .ok (.int .i64 0) w8 := hlk
        clear hw8 k0 k1 d0 d1 d2 d3 hlk
        go_upto_region 18 with (first | (at_mapUpdate; refine wpList_fput rfl _ _ _ rfl HM8.out (by omega) (d : Int) 1 rfl rfl rfl (by omega) (by omega) ?_; intro w9 hm9 hg9) | fail)
        have HM9 := Lib.hid hm9
        have HE9 := Lib.hid (HE8.out.mput HM8.out (by have := HB.out; omega) hg9)
        clear hm9 hg9
        go_wp2_with fail
        go_roundg (P - (j + 1))
        case measure => omega
        case rel => exact ⟨j + 1, k + 1, _, by omega, by omega, by omega, by go_num, HE9.out, by have h := HM9.out; rw [HNo.out] at h; exact h, fun y hy => by
          by_cases e : y = (d : Int)
          · exact ⟨j, by omega, by rw [HD.out, e]⟩
          · rw [updF_other _ _ _ e] at hy
            obtain ⟨i, hi, h⟩ := HFr.out y hy
            exact ⟨i, by omega, h⟩⟩
      · obtain rfl : j = P := by omega
        have hfs := HF6.out.ev HE.out
        have hlen := HMr.out.len
        have HWo := Lib.hid (word_any R4 wr HE.out.inv a4 j c4 L hfs (by omega))
        have e0 : ((j : Int) == (j : Int)) = true := by simp
        clear hfs
        go_wp2_with fail
        refine HWo.out.mono ?_
        rintro e w8 ⟨v8, rfl, he8, hw8⟩
        rw [HWd.out] at hw8
        have HTx := Lib.hid (text_any R4 w8 he8.inv _ _ _ hw8 HKb.out (by rw [HKl.out]; omega))
        have HE8 := Lib.hid (HE.out.trans he8)
        clear he8 hw8
        go_wp2_with fail
        refine HTx.out.mono ?_
        rintro e w9 ⟨rfl, he9⟩
        have HE9 := Lib.hid (HE8.out.trans he9)
        have hok := HoK6.out.ev HE9.out
        have HRt := Lib.hid (rtext_any w9 _ K hok.ints HKb.out (by rw [HKl.out]; omega))
        clear he9 hok
        go_wp2_with fail
        refine HRt.out.mono ?_
        rintro e w10 ⟨rfl, rfl⟩
        obtain ⟨T, hT⟩ : ∃ T, (textL K).toArray = T := ⟨_, rfl⟩
        rw [hT]
        have HR9 := Lib.hid (HRg.out _ _ (HE6.out.trans HE9.out) a4 j c4 L (HF6.out.ev HE9.out) (by omega))
        have e5 : ((⟨T⟩ : ByteArray).toList == (⟨T⟩ : ByteArray).toList) = true := by simp
        clear hT
        go_wp2_with fail
        refine HR9.out.mono ?_
        rintro e w11 ⟨rfl, R11, he11⟩
        have HE11 := Lib.hid ((HE6.out.trans HE9.out).trans he11)
        clear he11
        simp only [decide_true]
        go_wp2_with fail
        go_ret
        exact ⟨rfl, R11, HE3.out.trans HE11.out⟩
  · have hout : root < 0 ∨ (S.length : Int) ≤ root := by omega
    have HOf := Lib.hid (of_out R2 w3 HI3.out p S r 0 HP3.out root hout)
    have HRo := Lib.hid (right_out R2 w3 HI3.out p S r 0 HP3.out root hout nilS)
    have e1 : ((5 : Int) == (5 : Int)) = true := by simp
    by_cases h0 : root < 0
    · go_wp2_with fail
      refine HOf.out.mono ?_
      rintro e w4 ⟨rfl, rfl⟩
      unfold nilS at HRo ⊢
      go_wp2_with fail
      refine HRo.out.mono ?_
      rintro e w5 ⟨rfl, rfl⟩
      go_wp2_with fail
      go_ret
      exact ⟨rfl, R2, HE3.out⟩
    · have h1 : (S.length : Int) ≤ root := by omega
      go_wp2_with fail
      refine HOf.out.mono ?_
      rintro e w4 ⟨rfl, rfl⟩
      unfold nilS at HRo ⊢
      obtain ⟨x0, x1, x2⟩ := HX.out _ _ (Ev.refl HI3.out)
      go_wp2_with fail
      refine HRo.out.mono ?_
      rintro e w5 ⟨rfl, rfl⟩
      go_wp2_with fail
      go_ret
      exact ⟨rfl, R2, HE3.out⟩

end Go.Proofs.Ytnbecpeiodcohaa
