/- parquetrylaw08.EulerTurned, the walk: it answers true. Conditions: the bytes lie in memory. -/
import Derived.Test.YtedocjhbmhllcaaLaw8B
import Derived.Test.YtedocjhbmhllcaaMathM
import Derived.Test.YtedocjhbmhllcaaArgs
namespace Go.Proofs.Ytedocjhbmhllcaa
open Go.RowKit
set_option linter.unusedVariables false

set_option maxRecDepth 100000 in
set_option maxHeartbeats 2000000 in
theorem pequal_any (R : Reg) (w : World) (hI : Inv R w) (B : Nat) (a b : Option Addr) (C c d : Nat) (f : Nat → PartR) (ho : OwnV R B 60 5 w (.slice a C c) C (flatF f C)) (hu : OwnV R B 60 5 w (.slice b C d) C (flatF f C)) (hC : C ≤ 300000) :
    Calls Try.prog 63 #[.slice a C c, .slice b C d] w (RetE R w (.bool true)) := by
  have HI := Lib.hid hI
  have HO := Lib.hid ho
  have HU := Lib.hid hu
  have heq : ((C : Int) != (C : Int)) = false := by simp
  clear hI ho hu
  go_enter Try.func63, Try.ntmps63
  go_wp2_with fail
  go_loopg [13] C (fun gg v13 wr => ∃ i : Nat, i ≤ C ∧ C - i ≤ gg ∧ v13 = .int .i64 (i : Int) ∧ Ev R w R wr)
  case atStart => exact ⟨0, by omega, by omega, rfl, Ev.refl HI.out⟩
  case round =>
    obtain ⟨i, hi, hg, rfl, hev⟩ := hrel
    have HEv := Lib.hid hev
    clear hev
    by_cases hil : i < C
    · have ho := HO.out.ev HEv.out
      obtain ⟨gb, rfl, _, _, c0, _⟩ := ho.headAt (i := i * 5 + 0) (by rw [flatF_length]; omega)
      obtain ⟨_, e1, _, _, c1, _⟩ := ho.headAt (i := i * 5 + 1) (by rw [flatF_length]; omega)
      cases e1
      obtain ⟨_, e1, _, _, c2, _⟩ := ho.headAt (i := i * 5 + 2) (by rw [flatF_length]; omega)
      cases e1
      obtain ⟨_, e1, _, _, c3, _⟩ := ho.headAt (i := i * 5 + 3) (by rw [flatF_length]; omega)
      cases e1
      obtain ⟨_, e1, _, _, c4, _⟩ := ho.headAt (i := i * 5 + 4) (by rw [flatF_length]; omega)
      cases e1
      have ho2 := HU.out.ev HEv.out
      obtain ⟨gr, rfl, _, _, d0, _⟩ := ho2.headAt (i := i * 5 + 0) (by rw [flatF_length]; omega)
      obtain ⟨_, e1, _, _, d1, _⟩ := ho2.headAt (i := i * 5 + 1) (by rw [flatF_length]; omega)
      cases e1
      obtain ⟨_, e1, _, _, d2, _⟩ := ho2.headAt (i := i * 5 + 2) (by rw [flatF_length]; omega)
      cases e1
      obtain ⟨_, e1, _, _, d3, _⟩ := ho2.headAt (i := i * 5 + 3) (by rw [flatF_length]; omega)
      cases e1
      obtain ⟨_, e1, _, _, d4, _⟩ := ho2.headAt (i := i * 5 + 4) (by rw [flatF_length]; omega)
      cases e1
      rw [flatF_get (by omega) hil] at c0 c1 c2 c3 c4 d0 d1 d2 d3 d4
      obtain ⟨p', hp'⟩ : ∃ p, f i = p := ⟨_, rfl⟩
      rw [hp'] at c0 c1 c2 c3 c4 d0 d1 d2 d3 d4
      obtain ⟨pr, pv, pe, pb, pg⟩ := p'
      have k0 : wr.cell? ⟨gb, i * 5, none⟩ = some (.int .i64 pr) := c0
      have k1 : wr.cell? ⟨gb, i * 5 + 1, none⟩ = some (.int .i64 pv) := c1
      have k2 : wr.cell? ⟨gb, i * 5 + 2, none⟩ = some (.int .i64 pe) := c2
      have k3 : wr.cell? ⟨gb, i * 5 + 3, none⟩ = some (.int .i64 pb) := c3
      have k4 : wr.cell? ⟨gb, i * 5 + 4, none⟩ = some (.int .i64 pg) := c4
      have l0 : wr.cell? ⟨gr, i * 5, none⟩ = some (.int .i64 pr) := d0
      have l1 : wr.cell? ⟨gr, i * 5 + 1, none⟩ = some (.int .i64 pv) := d1
      have l2 : wr.cell? ⟨gr, i * 5 + 2, none⟩ = some (.int .i64 pe) := d2
      have l3 : wr.cell? ⟨gr, i * 5 + 3, none⟩ = some (.int .i64 pb) := d3
      have l4 : wr.cell? ⟨gr, i * 5 + 4, none⟩ = some (.int .i64 pg) := d4
      clear c0 c1 c2 c3 c4 d0 d1 d2 d3 d4 hp' ho ho2
      go_wp2_with fail
      go_quiet (fail)
      go_wp2_with fail
      go_roundg (C - (i + 1))
      case measure => omega
      case rel => exact ⟨i + 1, by omega, by omega, by go_num, HEv.out.drewN _⟩
    · obtain rfl : i = C := by omega
      go_wp2_with fail
      go_ret
      exact ⟨rfl, HEv.out⟩

set_option maxRecDepth 100000 in
set_option maxHeartbeats 8000000 in
theorem eulerTurned_walk (w : World) (n ln rt : Nat) (hn : n ≤ 255) (hl : ln ≤ 255) (hrt : rt ≤ 255) (v : Value) (bs : List Nat) (hv : FreeB noReg w v bs) :
    Calls Try.prog 14 #[.int .u8 (n : Int), v, .int .u8 (ln : Int), .int .u8 (rt : Int)] w (RetTrue noReg w) := by
  have HA := Lib.hid (awake8_any noReg w (Inv.noReg w))
  have hnot := not_run
  have HV := Lib.hid hv
  have hS := mixL_perm (2 * (n % 12)) bs
  have hSl := mixL_length (2 * (n % 12)) bs
  have HM := Lib.hid (fun R w' (hI : Inv R w') (hv : FreeB R w' v bs) => made8_any R w' hI n ln hn hl v bs hv)
  obtain ⟨S, hSe⟩ : ∃ S, mixL (2 * (n % 12)) bs = S := ⟨_, rfl⟩
  obtain ⟨r, hre⟩ : ∃ r, anyRoot (n % 12) 0 = r := ⟨_, rfl⟩
  obtain ⟨lo, hlo⟩ : ∃ lo, ln % 4 = lo := ⟨_, rfl⟩
  have hlo5 : lo ≤ 4 := by omega
  obtain ⟨m, hm⟩ : ∃ m, 2 * (n % 12) = m := ⟨_, rfl⟩
  have hm20 : m ≤ 22 := by omega
  have hev : m % 2 = 0 := by omega
  rw [hSe, hre, hlo] at HM
  rw [hSe, hm] at hSl
  rw [hSe] at hS
  have HS := Lib.hid hS
  have HSL := Lib.hid hSl
  obtain ⟨a0, c0, rfl, _⟩ := hv
  clear hSe hre hlo hm
  rw [← hSl] at hev hm20
  have hpn := partsN_le hS hev
  have hpi := partsN_inv hS hev
  have hfi := partsF_inv hS hev
  have hti := triB_inv hS hev lo
  have hdi := dblsL_inv hS
  have hsi := invL_perm hS
  have hli := invL_length S
  have HIV : Hid (∀ r : Int, MapOk S r lo → MapOk (invL S) r lo) := Lib.hid (fun r h => by unfold MapOk at h ⊢; rw [hli]; exact h)
  have HSI := Lib.hid hsi
  have HLI := Lib.hid hli
  obtain ⟨C, hC⟩ : ∃ C, partsN S + lo = C := ⟨_, rfl⟩
  have hC25 : C ≤ 300000 := by omega
  obtain ⟨b4, hb4⟩ : ∃ b, triB S lo = b := ⟨_, rfl⟩
  obtain ⟨d, hdq⟩ : ∃ l, dblsL S = l := ⟨_, rfl⟩
  have K1 : Hid (∀ R w p r, Inv R w → MapAt R p S r lo → Calls Try.prog 55 #[p] w (RetParts R w C (partsF S))) := Lib.hid (fun R w p r hI hp => by have := eparts_any R w hI p S r lo hp; rwa [hC] at this)
  have K2 : Hid (∀ R w p r, Inv R w → MapAt R p (invL S) r lo → Calls Try.prog 55 #[p] w (RetParts R w C (partsF S))) := Lib.hid (fun R w p r hI hp => by have := eparts_any R w hI p (invL S) r lo hp; rwa [hpi, hfi, hC] at this)
  have K3 : Hid (∀ R w p r, Inv R w → MapAt R p S r lo → Calls Try.prog 61 #[p] w (RetV R w (.bool b4))) := Lib.hid (fun R w p r hI hp => by have := etri_any R w hI p S r lo hp; rwa [hb4] at this)
  have K4 : Hid (∀ R w p r, Inv R w → MapAt R p (invL S) r lo → Calls Try.prog 61 #[p] w (RetV R w (.bool b4))) := Lib.hid (fun R w p r hI hp => by have := etri_any R w hI p (invL S) r lo hp; rwa [hti, hb4] at this)
  have K5 : Hid (∀ R w p r, Inv R w → MapAt R p S r lo → Calls Try.prog 54 #[p] w (RetV R w (.int .i64 (d : Int)))) := Lib.hid (fun R w p r hI hp => by have := edoubles_any R w hI p S r lo hp; rwa [hdq] at this)
  have K6 : Hid (∀ R w p r, Inv R w → MapAt R p (invL S) r lo → Calls Try.prog 54 #[p] w (RetV R w (.int .i64 (d : Int)))) := Lib.hid (fun R w p r hI hp => by have := edoubles_any R w hI p (invL S) r lo hp; rwa [hdi, hdq] at this)
  have KD := Lib.hid (fun R w p r (hI : Inv R w) (hp : MapAt R p S r lo) => darts_any R w hI p S r lo hp)
  have KR := Lib.hid (fun R w p r (hI : Inv R w) (hp : MapAt R p S r lo) x => rooted_any R w hI p S r lo hp x)
  have HIG := Lib.hid (fun k => invGo_succ S k)
  have HLg := Lib.hid (fun k => invGo_length S k)
  obtain ⟨i0, hi, hz0, hz1, hz2⟩ := info_parts int_info
  obtain ⟨nn, hnn⟩ : ∃ nn, S.length = nn := ⟨_, rfl⟩
  have HN := Lib.hid hnn
  rw [hnn] at hm20 hev
  have hbb : (b4 == b4) = true := by simp
  have hdd : ((d : Int) == (d : Int)) = true := by simp
  clear hpn hpi hfi hti hdi hsi hli hC hb4 hdq hS hSl hnn
  go_enter Try.func14, Try.ntmps14
  go_wp2_with fail
  refine HA.out.mono ?_
  rintro e w1 ⟨rfl, R1, he1⟩
  have HE1 := Lib.hid he1
  clear he1
  go_wp2_with fail
  refine (HM.out R1 w1 HE1.out.inv (HV.out.ev HE1.out)).mono ?_
  rintro e w2 ⟨p, a1, c1, R2, rfl, he2, hp2, hf2⟩
  unfold refV
  have hnone : R2 w2.heap.size = none := he2.inv.none_of_ge (Nat.le_refl _)
  have hI3 := he2.inv.alloc (.cells #[.slice a1 S.length c1, .int .i64 r, .int .i64 (lo : Int)] 27)
  have hf3 := hf2.ev ((Ev.refl he2.inv).alloc (.cells #[.slice a1 S.length c1, .int .i64 r, .int .i64 (lo : Int)] 27))
  have HE2 := Lib.hid (HE1.out.trans he2)
  have HP3 := Lib.hid hp2
  have HX := Lib.hid (fun R' w' (h : Ev R2 (w2.alloc (.cells #[.slice a1 S.length c1, .int .i64 r, .int .i64 (lo : Int)] 27)) R' w') => h.ref3 hnone)
  have HF3 := Lib.hid hf3
  have HI3 := Lib.hid hI3
  rw [HN.out] at HX HF3 HI3 ⊢
  clear he2 hp2 hf2 hI3 hnone hf3
  obtain ⟨w3, hw3⟩ : ∃ w3, w3 = w2.alloc (.cells #[.slice a1 nn c1, .int .i64 r, .int .i64 (lo : Int)] 27) := ⟨_, rfl⟩
  have HE3 : Hid (Ev noReg w R2 w3) := by rw [hw3]; exact HE2.out.alloc _
  rw [← hw3] at HX HF3 HI3
  have HW3 := Lib.hid hw3
  obtain ⟨x0, x1, x2⟩ := HX.out _ _ (Ev.refl HI3.out)
  rw [hw3] at x0 x1 x2
  clear hw3 HE2
  go_wp2_with (refine wpList_make_full _ rfl _ _ 25 rfl w3.heap.size 3 i0 (.int .i64 0) 1 Try.underlying25 hi hz0 hz1 .i64 .i64 (nn : Int) (nn : Int) nn rfl rfl rfl rfl ?q1 ?q2 (by rw [HW3.out]; exact Nat.le_refl _) ?_)
  case q1 => rw [hz2]; omega
  case q2 => unfold maxLen; omega
  rw [← HW3.out]
  intro w4 ho4 hg4
  have hb3 : w3.heap.size = w2.heap.size + 1 := by rw [HW3.out]; simp
  have hRb : R2 (w2.heap.size + 1) = none := HI3.out.none_of_ge (by omega)
  have hown : OwnI R2 w3.heap.size 3 w4 (.slice (some ⟨w2.heap.size + 1, 0, none⟩) nn nn) (toI (invGo S 0)) := by
    have := OwnI.madeAt hRb ho4
    rw [show toI (invGo S 0) = List.replicate nn 0 by simp [toI, invGo, HN.out]]
    exact this
  have HO4 := Lib.hid hown
  have HE4 := Lib.hid ((Ev.refl HI3.out).grown hg4 (by simp))
  clear hown ho4 hg4 x0 x1 x2 HW3
  obtain ⟨b, hb⟩ : ∃ b, w2.heap.size + 1 = b := ⟨_, rfl⟩
  rw [hb] at HO4 hRb hb3 ⊢
  have hbw : w2.heap.size < b := by omega
  have HB3 := Lib.hid hb3
  clear hb hb3
  obtain ⟨x0, x1, x2⟩ := HX.out _ _ HE4.out
  go_wp2_with fail
  go_loopg [36] nn (fun g v36 wr => ∃ k : Nat, k ≤ nn ∧ nn - k ≤ g ∧ v36 = .int .i64 (k : Int) ∧ Ev R2 w3 R2 wr ∧ OwnI R2 w3.heap.size 3 wr (.slice (some ⟨b, 0, none⟩) nn nn) (toI (invGo S k)))
  case atStart => exact ⟨0, Nat.zero_le _, by omega, rfl, HE4.out, HO4.out⟩
  case round =>
    obtain ⟨k, hk, hg, rfl, he, ho⟩ := hrel
    have HE := Lib.hid he
    have HO := Lib.hid ho
    have HLE := Lib.hid (show (toI (invGo S k)).length = nn by rw [toI_length, HLg.out, HN.out])
    clear he ho x0 x1 x2
    by_cases hkn : k < nn
    · obtain ⟨b', off, e1, hc⟩ := (HF3.out.ev HE.out).at (i := k) (by rw [HN.out]; exact hkn)
      subst e1
      have hx : at' S k < nn := by have := HS.out.lt (i := k) (by rw [HN.out]; exact hkn); rw [HN.out] at this; exact this
      obtain ⟨x, hxe⟩ : ∃ x, at' S k = x := ⟨_, rfl⟩
      rw [hxe] at hx hc
      obtain ⟨g, e2, hgb, hgn, hcx, hzx⟩ := HO.out.headAt HLE.out hx
      cases e2
      have hst := HO.out.put HLE.out x hx (k : Int)
      have hs2 : (toI (invGo S k)).set x (k : Int) = toI (invGo S (k + 1)) := by rw [HIG.out, toI_set, hxe]
      rw [hs2] at hst
      have HST := Lib.hid hst
      clear hst hs2 hxe
      go_wp2_with fail
      go_roundg (nn - (k + 1))
      case measure => omega
      case rel => exact ⟨k + 1, by omega, by omega, by go_num, HE.out.setCell (Nat.le_of_eq HB3.out) hRb _, HST.out⟩
    · obtain rfl : k = nn := by omega
      have ho5 : FreeI R2 wr (.slice (some ⟨b, 0, none⟩) k k) (toI (invL S)) := by
        have := HO.out
        rw [show invGo S k = invL S by unfold invL; rw [HN.out]] at this
        exact this.free
      have hpx := HE.out.map HP3.out
      have hok := (hpx.ok HE.out.inv).2
      have HNew := Lib.hid (new_yes R2 wr HE.out.inv _ (invL S) ho5 r lo HSI.out (HIV.out r hok))
      have HPx := Lib.hid hpx
      obtain ⟨x0, x1, x2⟩ := HX.out _ _ HE.out
      clear ho5 hpx hok hkn hg hk HO HLE
      go_wp2_with fail
      refine HNew.out.mono ?_
      rintro e w5 ⟨qo, R5, rfl, he5, hq5⟩
      have HE5 := Lib.hid he5
      have HQ5 := Lib.hid hq5
      have HP5 := Lib.hid (he5.map HPx.out)
      have hD := KD.out R5 w5 p r he5.inv HP5.out
      rw [HN.out] at hD
      have HD := Lib.hid hD
      clear he5 hq5 hD x0 x1 x2
      go_wp2_with fail
      refine HD.out.mono ?_
      rintro e w' ⟨rfl, rfl⟩
      go_upto_if 58 with fail
      go_cut [16] (fun s16 wx => ∃ (Rx : Reg) (rt' : Int), Ev R5 w5 Rx wx ∧ MapAt Rx s16 S rt' lo)
      case first =>
        by_cases hk0 : k = 0
        · subst hk0
          go_wp2_with fail
          go_meet
          exact ⟨R5, r, Ev.refl HE5.out.inv, HP5.out⟩
        · have hkp : 0 < k := by omega
          have hgt : decide (0 < k) = true := by simp; omega
          have hRr := KR.out R5 w5 p r HE5.out.inv HP5.out ((rt : Int) % (k : Int))
          have hm1 : 0 ≤ (rt : Int) % (k : Int) := Int.emod_nonneg _ (by omega)
          have hm2 : (rt : Int) % (k : Int) < (k : Int) := Int.emod_lt_of_pos _ (by omega)
          have HRr := Lib.hid hRr
          have HM1 := Lib.hid hm1
          have HM2 := Lib.hid hm2
          clear hRr hm1 hm2
          go_wp2_with fail
          refine HD.out.mono ?_
          rintro e w' ⟨rfl, rfl⟩
          go_wp2_with fail
          refine HRr.out.mono ?_
          rintro e w6 (⟨h, _, _⟩ | ⟨_, _, q, R6, rfl, he6, hq6⟩)
          · exfalso
            have h1 := HM1.out
            have h2 := HM2.out
            rw [HN.out] at h
            omega
          · have HE6 := Lib.hid he6
            have HQ6 := Lib.hid hq6
            clear he6 hq6
            go_wp2_with fail
            go_meet
            exact ⟨R6, _, HE6.out, HQ6.out⟩
      case rest =>
        obtain ⟨Rx, rt', he6, hq6⟩ := hcut
        obtain ⟨w6, hw6⟩ : ∃ w6, w6 = wc := ⟨_, rfl⟩
        subst hw6
        have HE6 := Lib.hid he6
        have HQ6 := Lib.hid hq6
        have HP6 := Lib.hid (he6.map HP5.out)
        have HO6 := Lib.hid (he6.map HQ5.out)
        clear he6 hq6
        go_wp2_with fail
        refine (K1.out _ _ _ _ HE6.out.inv HP6.out).mono ?_
        rintro e w7 ⟨v7, R7, rfl, he, a7, c7, rfl, ho7⟩
        have HE7 := Lib.hid (HE6.out.trans he)
        have HP7 := Lib.hid (he.map HP6.out)
        have HO7 := Lib.hid (he.map HO6.out)
        have HQ7 := Lib.hid (he.map HQ6.out)
        have HL7 := Lib.hid ho7
        clear he ho7
        go_wp2_with fail
        refine (K2.out _ _ _ _ HE7.out.inv HO7.out).mono ?_
        rintro e w8 ⟨v8, R8, rfl, he, a8, c8, rfl, ho8⟩
        have HE8 := Lib.hid (HE7.out.trans he)
        have HP8 := Lib.hid (he.map HP7.out)
        have HO8 := Lib.hid (he.map HO7.out)
        have HQ8 := Lib.hid (he.map HQ7.out)
        have HL7 := Lib.hid (HL7.out.ev he)
        have HL8 := Lib.hid ho8
        clear he ho8
        go_wp2_with fail
        refine (K1.out _ _ _ _ HE8.out.inv HQ8.out).mono ?_
        rintro e w9 ⟨v9, R9, rfl, he, a9, c9, rfl, ho9⟩
        have HE9 := Lib.hid (HE8.out.trans he)
        have HP9 := Lib.hid (he.map HP8.out)
        have HO9 := Lib.hid (he.map HO8.out)
        have HL7 := Lib.hid (HL7.out.ev he)
        have HL8 := Lib.hid (HL8.out.ev he)
        have HL9 := Lib.hid ho9
        clear he ho9
        go_wp2_with fail
        refine (pequal_any R9 w9 HE9.out.inv 0 _ _ C _ _ _ (HL7.out.mono (Nat.zero_le _)) (HL8.out.mono (Nat.zero_le _)) hC25).mono ?_
        rintro e w10 ⟨rfl, he⟩
        have HE10 := Lib.hid (HE9.out.trans he)
        have HP10 := Lib.hid (he.map HP9.out)
        have HO10 := Lib.hid (he.map HO9.out)
        have HL7 := Lib.hid (HL7.out.ev he)
        have HL9 := Lib.hid (HL9.out.ev he)
        clear he
        go_wp2_with fail
        refine (pequal_any R9 w10 HE10.out.inv 0 _ _ C _ _ _ (HL7.out.mono (Nat.zero_le _)) (HL9.out.mono (Nat.zero_le _)) hC25).mono ?_
        rintro e w11 ⟨rfl, he⟩
        have HE11 := Lib.hid (HE10.out.trans he)
        have HP11 := Lib.hid (he.map HP10.out)
        have HO11 := Lib.hid (he.map HO10.out)
        clear he
        go_wp2_with fail
        refine (K3.out _ _ _ _ HE11.out.inv HP11.out).mono ?_
        rintro e w12 ⟨rfl, R12, he⟩
        have HE12 := Lib.hid (HE11.out.trans he)
        have HP12 := Lib.hid (he.map HP11.out)
        have HO12 := Lib.hid (he.map HO11.out)
        clear he
        go_wp2_with fail
        refine (K4.out _ _ _ _ HE12.out.inv HO12.out).mono ?_
        rintro e w13 ⟨rfl, R13, he⟩
        have HE13 := Lib.hid (HE12.out.trans he)
        have HP13 := Lib.hid (he.map HP12.out)
        have HO13 := Lib.hid (he.map HO12.out)
        clear he
        go_wp2_with fail
        refine (K5.out _ _ _ _ HE13.out.inv HP13.out).mono ?_
        rintro e w14 ⟨rfl, R14, he⟩
        have HE14 := Lib.hid (HE13.out.trans he)
        have HO14 := Lib.hid (he.map HO13.out)
        clear he
        go_wp2_with fail
        refine (K6.out _ _ _ _ HE14.out.inv HO14.out).mono ?_
        rintro e w15 ⟨rfl, R15, he⟩
        have HE15 := Lib.hid (HE14.out.trans he)
        clear he
        go_wp2_with fail
        go_ret
        exact ⟨rfl, _, HE3.out.trans (HE.out.trans (HE5.out.trans HE15.out))⟩

end Go.Proofs.Ytedocjhbmhllcaa
