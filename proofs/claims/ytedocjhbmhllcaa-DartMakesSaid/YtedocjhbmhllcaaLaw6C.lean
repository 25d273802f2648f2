/- parquetrylaw06.DartMakes, the walk: it answers true. Conditions: the list lies in memory. -/
import Derived.Test.YtedocjhbmhllcaaLaw6A
import Derived.Test.YtedocjhbmhllcaaArgs
import Derived.Test.YtedocjhbmhllcaaRefE
namespace Go.Proofs.Ytedocjhbmhllcaa
open Go.RowKit
set_option linter.unusedVariables false

theorem nth_take {xs : List Int} {i t : Nat} (h : i < t) : nth (xs.take t) i = nth xs i := by
  unfold nth
  rw [List.getD_eq_getElem?_getD, List.getElem?_take, if_pos h, List.getD_eq_getElem?_getD]

theorem FreeI.take {R : Reg} {w : World} {a : Option Addr} {n cap : Nat} {xs : List Int} (h : FreeI R w (.slice a n cap) xs) (t : Nat) (ht : t ≤ n) : FreeI R w (.slice a t cap) (xs.take t) := by
  obtain ⟨⟨a', cap', e, h1, h2, h3⟩, hf⟩ := h
  cases e
  have hl : (xs.take t).length = t := by rw [List.length_take]; omega
  refine ⟨⟨a, cap, by rw [hl], by omega, h2, fun i hi => ?_⟩, ?_⟩
  · rw [hl] at hi
    obtain ⟨b, off, e1, e2⟩ := h3 i (by omega)
    exact ⟨b, off, e1, by rw [e2, nth_take hi]⟩
  · rcases hf with rfl | ⟨b, off, m, c, e1, e2⟩
    · exact Or.inl (by simp)
    · cases e1
      exact Or.inr ⟨b, off, t, cap, rfl, e2⟩

set_option maxRecDepth 100000 in
set_option maxHeartbeats 4000000 in
theorem dartMakes_walk (w : World) (root lone : Int) (v : Value) (xs : List Int) (hv : FreeI noReg w v xs) :
    Calls Try.prog 4 #[v, .int .i64 root, .int .i64 lone] w (RetTrue noReg w) := by
  have HA := Lib.hid (awake6_any noReg w (Inv.noReg w))
  have hnot := not_run
  obtain ⟨a, cap, rfl, hv⟩ := hv.open
  obtain ⟨n, hl⟩ : ∃ n, xs.length = n := ⟨_, rfl⟩
  have hcap : n ≤ cap ∧ cap ≤ maxLen := by
    obtain ⟨⟨_, _, e, h1, h2, _⟩, _⟩ := hv
    cases e
    rw [← hl]; exact ⟨h1, h2⟩
  rw [hl] at hv ⊢
  obtain ⟨hc1, hc2⟩ := hcap
  unfold maxLen at hc2
  obtain ⟨t, ht⟩ : ∃ t, min n 20 = t := ⟨_, rfl⟩
  have htn : t ≤ n := by omega
  have ht20 : t ≤ 20 := by omega
  have htl : (xs.take t).length = t := by rw [List.length_take]; omega
  have HV := Lib.hid (hv.take t htn)
  have htcases : t = n ∨ (t = 20 ∧ 20 < n) := by omega
  obtain ⟨ys, hys⟩ : ∃ ys, xs.take t = ys := ⟨_, rfl⟩
  rw [hys] at HV htl
  have HTL := Lib.hid htl
  clear hv hys htl hl ht
  rcases htcases with rfl | ⟨rfl, h20⟩
  · go_enter Try.func4, Try.ntmps4
    go_wp2_with fail
    refine HA.out.mono ?_
    rintro e w1 ⟨rfl, R1, he1⟩
    have HE1 := Lib.hid he1
    clear he1
    go_wp2_with fail
    refine (clone_any R1 w1 HE1.out.inv _ ys (HV.out.ev HE1.out).1 (by have := HTL.out; omega)).mono ?_
    rintro e w2 ⟨v2, rfl, he2, ho2⟩
    obtain ⟨a2, c2, rfl, _⟩ := ho2.ints.open
    obtain ⟨m, hm⟩ : ∃ m, ys.length = m := ⟨_, rfl⟩
    have hm20 : m ≤ 20 := by have := HTL.out; omega
    rw [hm] at ho2 ⊢
    have HM := Lib.hid hm
    have HE2 := Lib.hid (HE1.out.trans he2)
    have HO2 := Lib.hid ho2
    clear he2 ho2 hm
    go_wp2_with fail
    refine (clone_any R1 w2 HE2.out.inv _ ys HO2.out.ints (by have := HM.out; omega)).mono ?_
    rintro e w3 ⟨v3, rfl, he3, ho3⟩
    obtain ⟨a3, c3, rfl, _⟩ := ho3.ints.open
    rw [HM.out] at ho3 ⊢
    have hdis : ∀ q, (Value.slice a3 m c3).ownBlock = some q → (Value.slice a2 m c2).ownBlock ≠ some q := fun q h1 h2 => by
      have := (ho3.lt q h1).1
      have := (HO2.out.lt q h2).2
      omega
    have HO2' := Lib.hid (HO2.out.ev he3)
    have HE3 := Lib.hid (HE2.out.trans he3)
    have HO3 := Lib.hid ho3
    have HDS := Lib.hid hdis
    clear he3 ho3 hdis
    go_wp2_with fail
    refine (new_any R1 w3 HE3.out.inv _ ys HO3.out.free (by have := HM.out; omega) root lone).mono ?_
    rintro e w4 hnp
    have hnp' : ∃ p c R4, e = .returned (.tuple #[p, .int .i64 c]) ∧ Ev R1 w3 R4 w4 ∧ c = newErr ys root lone ∧ ((newErr ys root lone ≠ 0 ∧ p = .pointer none) ∨ (newErr ys root lone = 0 ∧ ∃ S, IsPerm S ∧ ys = toI S ∧ MapOk S root lone ∧ MapAt R4 p S root lone)) := by
      rcases hnp with ⟨h1, h2, R4, h3⟩ | ⟨h1, S, p, R4, h2, h3, h4, h5, h6, h7⟩
      · exact ⟨_, _, R4, h2, h3, rfl, Or.inl ⟨h1, rfl⟩⟩
      · exact ⟨p, 0, R4, h5, h6, h1.symm, Or.inr ⟨h1, S, h2, h3, h4, h7⟩⟩
    obtain ⟨p, c, R4, rfl, he4, hce, hres⟩ := hnp'
    have HCE := Lib.hid hce
    have HRES := Lib.hid hres
    have HE4 := Lib.hid (HE3.out.trans he4)
    have HO24 := Lib.hid ((HO2'.out.ev he4).mono (B' := w1.heap.size) (Nat.le_refl _))
    have hz1 : w.heap.size ≤ w1.heap.size := HE1.out.size
    have hz2 : w.heap.size ≤ w2.heap.size := HE2.out.size
    have HO34 := Lib.hid (HO3.out.ev he4)
    clear hnp hce hres he4 HO2'
    go_wp2_with fail
    go_loopg [33] m (fun g v33 wr => ∃ (k : Nat) (Z : List Int), k ≤ m ∧ m - k ≤ g ∧ v33 = .int .i64 (k : Int) ∧ Z.length = m ∧ Ev R4 w4 R4 w4 ∧ Ev noReg w R4 wr ∧ OwnI R4 w2.heap.size 3 wr (.slice a3 m c3) Z ∧ OwnI R4 w1.heap.size 3 wr (.slice a2 m c2) ys)
    case atStart => exact ⟨0, ys, Nat.zero_le _, by omega, rfl, HM.out, Ev.refl HE4.out.inv, HE4.out, HO34.out, HO24.out⟩
    case round =>
      obtain ⟨k, Z, hk, hg, rfl, hz, _, he, ho, ho'⟩ := hrel
      have HZ := Lib.hid hz
      have HE := Lib.hid he
      have HO := Lib.hid ho
      have HOO := Lib.hid ho'
      clear hz he ho ho'
      by_cases hkm : k < m
      · obtain ⟨g3, e3, hgb, hgn, hck, hzk⟩ := HO.out.headAt HZ.out hkm
        subst e3
        have HST := Lib.hid (HO.out.put HZ.out k hkm 0)
        go_wp2_with fail
        go_roundg (m - (k + 1))
        case measure => omega
        case rel => exact ⟨k + 1, Z.set k 0, by omega, by omega, by go_num, by rw [List.length_set]; exact HZ.out, Ev.refl HE4.out.inv, HE.out.setCell (Nat.le_trans hz2 hgb) hgn _, HST.out, HOO.out.setCell (HDS.out g3 rfl) _⟩
      · obtain rfl : k = m := by omega
        go_wp2_with fail
        refine (rerr_any _ _ ys HOO.out.ints (by have := HM.out; omega) root lone).mono ?_
        rintro e w5 ⟨rfl, rfl⟩
        rw [← HCE.out]
        rcases HRES.out with ⟨hne, hpn⟩ | ⟨he0, S, hS, hyS, hmk, hmp⟩
        · have hcn : (c != 0) = true := by rw [bne_iff_ne, HCE.out]; exact hne
          have hpn' := hpn
          subst hpn
          clear hne hpn'
          go_wp2_with fail
          go_ret
          exact ⟨rfl, R4, HE.out⟩
        · have hc0 : c = 0 := by rw [HCE.out]; exact he0
          subst hc0
          have hmp' := (Ev.refl HE.out.inv).map hmp
          have HS := Lib.hid hS
          have HMP := Lib.hid hmp'
          have HYS := Lib.hid hyS
          have HSL := Lib.hid (show S.length = k by rw [← HM.out, hyS, toI_length])
          obtain ⟨bp, hbp, _⟩ := hmp
          clear he0 hS hyS hmk hmp' HCE HRES
          subst hbp
          go_wp2_with fail
          refine (mlist_any R4 _ HE.out.inv _ S root lone HMP.out).mono ?_
          rintro e w6 ⟨v6, rfl, he6, ho6⟩
          obtain ⟨a6, c6, rfl, _⟩ := ho6.ints.open
          rw [toI_length, HSL.out] at ho6 ⊢
          have hdis6 : ∀ q, (Value.slice a6 k c6).ownBlock = some q → (Value.slice a2 k c2).ownBlock ≠ some q := fun q h1 h2 => by
            have := (ho6.lt q h1).1
            have := (HOO.out.lt q h2).2
            omega
          have hz6 := HE.out.size
          have HD6 := Lib.hid hdis6
          have HE6 := Lib.hid (HE.out.trans he6)
          have HO6 := Lib.hid ho6
          have HOO6 := Lib.hid (HOO.out.ev he6)
          clear he6 ho6 hdis6
          obtain ⟨wl, hwl⟩ : ∃ wl : World, wl = w6 := ⟨_, rfl⟩
          subst hwl
          go_wp2_with fail
          go_loopg [57] k (fun g v57 wq => ∃ (j : Nat) (Z : List Int), j ≤ k ∧ k - j ≤ g ∧ v57 = .int .i64 (j : Int) ∧ Z.length = k ∧ Ev noReg w R4 wq ∧ OwnI R4 w.heap.size 3 wq (.slice a6 k c6) Z ∧ OwnI R4 w1.heap.size 3 wq (.slice a2 k c2) ys)
          case atStart => exact ⟨0, toI S, Nat.zero_le _, by omega, rfl, by rw [toI_length]; exact HSL.out, HE6.out, HO6.out.mono hz6, HOO6.out⟩
          case round =>
            obtain ⟨j, Z, hj, hg', rfl, hz, heq, hoq, hoq'⟩ := hrel
            have HZ := Lib.hid hz
            have HEQ := Lib.hid heq
            have HOQ := Lib.hid hoq
            have HOP := Lib.hid hoq'
            clear hz heq hoq hoq'
            by_cases hjk : j < k
            · obtain ⟨g6, e6, hgb, hgn, hcj, hzj⟩ := HOQ.out.headAt HZ.out hjk
              subst e6
              have HST := Lib.hid (HOQ.out.put HZ.out j hjk 0)
              go_wp2_with fail
              go_roundg (k - (j + 1))
              case measure => omega
              case rel => exact ⟨j + 1, Z.set j 0, by omega, by omega, by go_num, by rw [List.length_set]; exact HZ.out, HEQ.out.setCell hgb hgn _, HST.out, HOP.out.setCell (HD6.out g6 rfl) _⟩
            · obtain rfl : j = k := by omega
              have HRT := Lib.hid (fun R' w' (hI : Inv R' w') (hm : MapAt R' (.pointer (some ⟨bp, 0, none⟩)) S root lone) => root_any R' w' hI _ S root lone hm)
              have HLO := Lib.hid (fun R' w' (hI : Inv R' w') (hm : MapAt R' (.pointer (some ⟨bp, 0, none⟩)) S root lone) => lone_any R' w' hI _ S root lone hm)
              have HDA := Lib.hid (fun R' w' (hI : Inv R' w') (hm : MapAt R' (.pointer (some ⟨bp, 0, none⟩)) S root lone) => darts_any R' w' hI _ S root lone hm)
              have HED := Lib.hid (fun R' w' (hI : Inv R' w') (hm : MapAt R' (.pointer (some ⟨bp, 0, none⟩)) S root lone) => edges_any R' w' hI _ S root lone hm)
              have hhalf : ((j / 2 : Nat) : Int) = (j : Int) / 2 := by omega
              have HHF := Lib.hid hhalf
              clear hhalf
              go_wp2_with fail
              refine (mlist_any R4 _ HEQ.out.inv _ S root lone HMP.out).mono ?_
              rintro e w7 ⟨v7, rfl, he7, ho7⟩
              have HE7 := Lib.hid (HEQ.out.trans he7)
              have HO7 := Lib.hid ho7
              have HOP7 := Lib.hid (HOP.out.ev he7)
              clear he7 ho7
              go_wp2_with fail
              refine (equal_any R4 w7 HE7.out.inv _ _ _ _ HO7.out.ints HOP7.out.ints (by rw [toI_length, HSL.out]; omega) (by have := HM.out; omega)).mono ?_
              rintro e w8 ⟨rfl, he8⟩
              rw [eqL_true HYS.out.symm]
              have HE8 := Lib.hid (HE7.out.trans he8)
              clear he8
              go_wp2_with fail
              refine (HRT.out R4 w8 HE8.out.inv HMP.out).mono ?_
              rintro e w9 ⟨rfl, rfl⟩
              go_wp2_with fail
              refine (HLO.out R4 _ HE8.out.inv HMP.out).mono ?_
              rintro e w9 ⟨rfl, rfl⟩
              go_wp2_with fail
              refine (HDA.out R4 _ HE8.out.inv HMP.out).mono ?_
              rintro e w9 ⟨rfl, rfl⟩
              rw [HSL.out]
              go_wp2_with fail
              refine (HED.out R4 _ HE8.out.inv HMP.out).mono ?_
              rintro e w9 ⟨rfl, rfl⟩
              rw [HSL.out, HHF.out]
              go_wp2_with fail
              go_ret
              exact ⟨rfl, R4, HE8.out⟩
  · go_enter Try.func4, Try.ntmps4
    go_wp2_with fail
    refine HA.out.mono ?_
    rintro e w1 ⟨rfl, R1, he1⟩
    have HE1 := Lib.hid he1
    clear he1
    go_wp2_with fail
    refine (clone_any R1 w1 HE1.out.inv _ ys (HV.out.ev HE1.out).1 (by have := HTL.out; omega)).mono ?_
    rintro e w2 ⟨v2, rfl, he2, ho2⟩
    obtain ⟨a2, c2, rfl, _⟩ := ho2.ints.open
    obtain ⟨m, hm⟩ : ∃ m, ys.length = m := ⟨_, rfl⟩
    have hm20 : m ≤ 20 := by have := HTL.out; omega
    rw [hm] at ho2 ⊢
    have HM := Lib.hid hm
    have HE2 := Lib.hid (HE1.out.trans he2)
    have HO2 := Lib.hid ho2
    clear he2 ho2 hm
    go_wp2_with fail
    refine (clone_any R1 w2 HE2.out.inv _ ys HO2.out.ints (by have := HM.out; omega)).mono ?_
    rintro e w3 ⟨v3, rfl, he3, ho3⟩
    obtain ⟨a3, c3, rfl, _⟩ := ho3.ints.open
    rw [HM.out] at ho3 ⊢
    have hdis : ∀ q, (Value.slice a3 m c3).ownBlock = some q → (Value.slice a2 m c2).ownBlock ≠ some q := fun q h1 h2 => by
      have := (ho3.lt q h1).1
      have := (HO2.out.lt q h2).2
      omega
    have HO2' := Lib.hid (HO2.out.ev he3)
    have HE3 := Lib.hid (HE2.out.trans he3)
    have HO3 := Lib.hid ho3
    have HDS := Lib.hid hdis
    clear he3 ho3 hdis
    go_wp2_with fail
    refine (new_any R1 w3 HE3.out.inv _ ys HO3.out.free (by have := HM.out; omega) root lone).mono ?_
    rintro e w4 hnp
    have hnp' : ∃ p c R4, e = .returned (.tuple #[p, .int .i64 c]) ∧ Ev R1 w3 R4 w4 ∧ c = newErr ys root lone ∧ ((newErr ys root lone ≠ 0 ∧ p = .pointer none) ∨ (newErr ys root lone = 0 ∧ ∃ S, IsPerm S ∧ ys = toI S ∧ MapOk S root lone ∧ MapAt R4 p S root lone)) := by
      rcases hnp with ⟨h1, h2, R4, h3⟩ | ⟨h1, S, p, R4, h2, h3, h4, h5, h6, h7⟩
      · exact ⟨_, _, R4, h2, h3, rfl, Or.inl ⟨h1, rfl⟩⟩
      · exact ⟨p, 0, R4, h5, h6, h1.symm, Or.inr ⟨h1, S, h2, h3, h4, h7⟩⟩
    obtain ⟨p, c, R4, rfl, he4, hce, hres⟩ := hnp'
    have HCE := Lib.hid hce
    have HRES := Lib.hid hres
    have HE4 := Lib.hid (HE3.out.trans he4)
    have HO24 := Lib.hid ((HO2'.out.ev he4).mono (B' := w1.heap.size) (Nat.le_refl _))
    have hz1 : w.heap.size ≤ w1.heap.size := HE1.out.size
    have hz2 : w.heap.size ≤ w2.heap.size := HE2.out.size
    have HO34 := Lib.hid (HO3.out.ev he4)
    clear hnp hce hres he4 HO2'
    go_wp2_with fail
    go_loopg [33] m (fun g v33 wr => ∃ (k : Nat) (Z : List Int), k ≤ m ∧ m - k ≤ g ∧ v33 = .int .i64 (k : Int) ∧ Z.length = m ∧ Ev R4 w4 R4 w4 ∧ Ev noReg w R4 wr ∧ OwnI R4 w2.heap.size 3 wr (.slice a3 m c3) Z ∧ OwnI R4 w1.heap.size 3 wr (.slice a2 m c2) ys)
    case atStart => exact ⟨0, ys, Nat.zero_le _, by omega, rfl, HM.out, Ev.refl HE4.out.inv, HE4.out, HO34.out, HO24.out⟩
    case round =>
      obtain ⟨k, Z, hk, hg, rfl, hz, _, he, ho, ho'⟩ := hrel
      have HZ := Lib.hid hz
      have HE := Lib.hid he
      have HO := Lib.hid ho
      have HOO := Lib.hid ho'
      clear hz he ho ho'
      by_cases hkm : k < m
      · obtain ⟨g3, e3, hgb, hgn, hck, hzk⟩ := HO.out.headAt HZ.out hkm
        subst e3
        have HST := Lib.hid (HO.out.put HZ.out k hkm 0)
        go_wp2_with fail
        go_roundg (m - (k + 1))
        case measure => omega
        case rel => exact ⟨k + 1, Z.set k 0, by omega, by omega, by go_num, by rw [List.length_set]; exact HZ.out, Ev.refl HE4.out.inv, HE.out.setCell (Nat.le_trans hz2 hgb) hgn _, HST.out, HOO.out.setCell (HDS.out g3 rfl) _⟩
      · obtain rfl : k = m := by omega
        go_wp2_with fail
        refine (rerr_any _ _ ys HOO.out.ints (by have := HM.out; omega) root lone).mono ?_
        rintro e w5 ⟨rfl, rfl⟩
        rw [← HCE.out]
        rcases HRES.out with ⟨hne, hpn⟩ | ⟨he0, S, hS, hyS, hmk, hmp⟩
        · have hcn : (c != 0) = true := by rw [bne_iff_ne, HCE.out]; exact hne
          have hpn' := hpn
          subst hpn
          clear hne hpn'
          go_wp2_with fail
          go_ret
          exact ⟨rfl, R4, HE.out⟩
        · have hc0 : c = 0 := by rw [HCE.out]; exact he0
          subst hc0
          have hmp' := (Ev.refl HE.out.inv).map hmp
          have HS := Lib.hid hS
          have HMP := Lib.hid hmp'
          have HYS := Lib.hid hyS
          have HSL := Lib.hid (show S.length = k by rw [← HM.out, hyS, toI_length])
          obtain ⟨bp, hbp, _⟩ := hmp
          clear he0 hS hyS hmk hmp' HCE HRES
          subst hbp
          go_wp2_with fail
          refine (mlist_any R4 _ HE.out.inv _ S root lone HMP.out).mono ?_
          rintro e w6 ⟨v6, rfl, he6, ho6⟩
          obtain ⟨a6, c6, rfl, _⟩ := ho6.ints.open
          rw [toI_length, HSL.out] at ho6 ⊢
          have hdis6 : ∀ q, (Value.slice a6 k c6).ownBlock = some q → (Value.slice a2 k c2).ownBlock ≠ some q := fun q h1 h2 => by
            have := (ho6.lt q h1).1
            have := (HOO.out.lt q h2).2
            omega
          have hz6 := HE.out.size
          have HD6 := Lib.hid hdis6
          have HE6 := Lib.hid (HE.out.trans he6)
          have HO6 := Lib.hid ho6
          have HOO6 := Lib.hid (HOO.out.ev he6)
          clear he6 ho6 hdis6
          obtain ⟨wl, hwl⟩ : ∃ wl : World, wl = w6 := ⟨_, rfl⟩
          subst hwl
          go_wp2_with fail
          go_loopg [57] k (fun g v57 wq => ∃ (j : Nat) (Z : List Int), j ≤ k ∧ k - j ≤ g ∧ v57 = .int .i64 (j : Int) ∧ Z.length = k ∧ Ev noReg w R4 wq ∧ OwnI R4 w.heap.size 3 wq (.slice a6 k c6) Z ∧ OwnI R4 w1.heap.size 3 wq (.slice a2 k c2) ys)
          case atStart => exact ⟨0, toI S, Nat.zero_le _, by omega, rfl, by rw [toI_length]; exact HSL.out, HE6.out, HO6.out.mono hz6, HOO6.out⟩
          case round =>
            obtain ⟨j, Z, hj, hg', rfl, hz, heq, hoq, hoq'⟩ := hrel
            have HZ := Lib.hid hz
            have HEQ := Lib.hid heq
            have HOQ := Lib.hid hoq
            have HOP := Lib.hid hoq'
            clear hz heq hoq hoq'
            by_cases hjk : j < k
            · obtain ⟨g6, e6, hgb, hgn, hcj, hzj⟩ := HOQ.out.headAt HZ.out hjk
              subst e6
              have HST := Lib.hid (HOQ.out.put HZ.out j hjk 0)
              go_wp2_with fail
              go_roundg (k - (j + 1))
              case measure => omega
              case rel => exact ⟨j + 1, Z.set j 0, by omega, by omega, by go_num, by rw [List.length_set]; exact HZ.out, HEQ.out.setCell hgb hgn _, HST.out, HOP.out.setCell (HD6.out g6 rfl) _⟩
            · obtain rfl : j = k := by omega
              have HRT := Lib.hid (fun R' w' (hI : Inv R' w') (hm : MapAt R' (.pointer (some ⟨bp, 0, none⟩)) S root lone) => root_any R' w' hI _ S root lone hm)
              have HLO := Lib.hid (fun R' w' (hI : Inv R' w') (hm : MapAt R' (.pointer (some ⟨bp, 0, none⟩)) S root lone) => lone_any R' w' hI _ S root lone hm)
              have HDA := Lib.hid (fun R' w' (hI : Inv R' w') (hm : MapAt R' (.pointer (some ⟨bp, 0, none⟩)) S root lone) => darts_any R' w' hI _ S root lone hm)
              have HED := Lib.hid (fun R' w' (hI : Inv R' w') (hm : MapAt R' (.pointer (some ⟨bp, 0, none⟩)) S root lone) => edges_any R' w' hI _ S root lone hm)
              have hhalf : ((j / 2 : Nat) : Int) = (j : Int) / 2 := by omega
              have HHF := Lib.hid hhalf
              clear hhalf
              go_wp2_with fail
              refine (mlist_any R4 _ HEQ.out.inv _ S root lone HMP.out).mono ?_
              rintro e w7 ⟨v7, rfl, he7, ho7⟩
              have HE7 := Lib.hid (HEQ.out.trans he7)
              have HO7 := Lib.hid ho7
              have HOP7 := Lib.hid (HOP.out.ev he7)
              clear he7 ho7
              go_wp2_with fail
              refine (equal_any R4 w7 HE7.out.inv _ _ _ _ HO7.out.ints HOP7.out.ints (by rw [toI_length, HSL.out]; omega) (by have := HM.out; omega)).mono ?_
              rintro e w8 ⟨rfl, he8⟩
              rw [eqL_true HYS.out.symm]
              have HE8 := Lib.hid (HE7.out.trans he8)
              clear he8
              go_wp2_with fail
              refine (HRT.out R4 w8 HE8.out.inv HMP.out).mono ?_
              rintro e w9 ⟨rfl, rfl⟩
              go_wp2_with fail
              refine (HLO.out R4 _ HE8.out.inv HMP.out).mono ?_
              rintro e w9 ⟨rfl, rfl⟩
              go_wp2_with fail
              refine (HDA.out R4 _ HE8.out.inv HMP.out).mono ?_
              rintro e w9 ⟨rfl, rfl⟩
              rw [HSL.out]
              go_wp2_with fail
              refine (HED.out R4 _ HE8.out.inv HMP.out).mono ?_
              rintro e w9 ⟨rfl, rfl⟩
              rw [HSL.out, HHF.out]
              go_wp2_with fail
              go_ret
              exact ⟨rfl, R4, HE8.out⟩

end Go.Proofs.Ytedocjhbmhllcaa
