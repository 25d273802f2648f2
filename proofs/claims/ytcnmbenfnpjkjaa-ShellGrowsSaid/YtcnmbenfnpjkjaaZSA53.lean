/- ShellGrows, the walk: it answers true. Conditions: none. -/
import Derived.Test.YtcnmbenfnpjkjaaZSA46
import Derived.Test.YtcnmbenfnpjkjaaZSA51
import Derived.Test.YtcnmbenfnpjkjaaZSA52
import Derived.Test.YtcnmbenfnpjkjaaZSA49
import Derived.Test.YtcnmbenfnpjkjaaZSA41
namespace Go.Proofs.Ytcnmbenfnpjkjaa
open Go.RowKit
set_option linter.unusedVariables false
set_option linter.unusedSimpArgs false

theorem nth_first {xs : List Int} {i t : Nat} (h : i < t) : nth (xs.take t) i = nth xs i := by
  unfold nth
  rw [List.getD_eq_getElem?_getD, List.getElem?_take, if_pos h, List.getD_eq_getElem?_getD]
theorem FreeI.first {R : Reg} {w : World} {a : Option Addr} {n cap : Nat} {xs : List Int} (h : FreeI R w (.slice a n cap) xs) (t : Nat) (ht : t ≤ n) : FreeI R w (.slice a t cap) (xs.take t) := by
  obtain ⟨⟨a', cap', e, h1, h2, h3⟩, hf⟩ := h
  cases e
  have hl : (xs.take t).length = t := by rw [List.length_take]; omega
  refine ⟨⟨a, cap, by rw [hl], by omega, h2, fun i hi => ?_⟩, ?_⟩
  · rw [hl] at hi
    obtain ⟨b, off, e1, e2⟩ := h3 i (by omega)
    exact ⟨b, off, e1, by rw [e2, nth_first hi]⟩
  · rcases hf with rfl | ⟨b, off, m, c, e1, e2⟩
    · exact Or.inl (by simp)
    · cases e1
      exact Or.inr ⟨b, off, t, cap, rfl, e2⟩

set_option maxRecDepth 100000 in
set_option maxHeartbeats 4000000 in
theorem shellGrows_walk (w : World) (n root kk : Nat) (hn : n ≤ 255) (hr : root ≤ 255) (hkk : kk ≤ 255) (v : Value) (bs : List Nat) (hv : FreeB noReg w v bs) :
    Calls Try.prog 4 #[.int .u8 (n : Int), v, .int .u8 (root : Int), .int .u8 (kk : Int)] w (RetTrue noReg w) := by
  have HA := Lib.hid (awake14_any noReg w (Inv.noReg w))
  have HTr := Lib.hid (fun R' w' (h : Ev noReg w R' w') => r14tri_any R' w' h.inv (n % 16) (by omega) v bs (hv.ev h) root hr)
  obtain ⟨q, hq⟩ : ∃ q, n % 16 = q := ⟨_, rfl⟩
  have hq16 : q < 16 := by omega
  have hqm : (n : Int) % 16 = (q : Int) := by omega
  rw [hq] at HTr
  obtain ⟨a0, c0, rfl, _, _⟩ := hv
  clear hq
  go_enter Try.func4, Try.ntmps4
  go_wp2_with fail
  refine HA.out.mono ?_
  rintro e w1 ⟨rfl, R1, he1⟩
  have HE1 := Lib.hid he1
  have HTr := Lib.hid (HTr.out _ _ he1)
  clear he1 HA
  go_wp2_with fail
  refine HTr.out.mono ?_
  rintro e w2 ⟨s, r, hT, hsl, hrt, a, c, rfl, he2, ho2⟩
  as_aux_lemma =>
    unfold refV
    have hrs : r < s.length := by omega
    have hok : MapOk s (r : Int) 0 := by unfold MapOk; have := hT.even; omega
    have hea := he2.alloc (.cells #[.slice a s.length c, .int .i64 (r : Int), .int .i64 0] 26)
    have HOf := Lib.hid (of14_any R1 _ hea.inv _ s (r : Int) 0 (ho2.alloc _).free hT.perm hok)
    unfold refV at HOf
    have HEa := Lib.hid (HE1.out.trans hea)
    have HT := Lib.hid hT
    have HR := Lib.hid hrs
    have HVm := Lib.hid (sizesL_le hT.perm)
    obtain ⟨N, hN⟩ : ∃ N, s.length = N := ⟨_, rfl⟩
    have hN1000 : N ≤ 1000 := by omega
    have HN := Lib.hid hN
    rw [hN] at HOf HEa ⊢
    clear he2 ho2 HTr hT hok hea hsl hrt hrs hN HE1
    go_wp2_with fail
    refine HOf.out.mono ?_
    rintro e w3 ⟨p, R3, rfl, he3, hp3⟩
    have HE3 := Lib.hid (HEa.out.trans he3)
    have HOr := Lib.hid (sorder_any R3 w3 he3.inv p s r hp3 HT.out HR.out)
    have HP := Lib.hid hp3
    clear he3 hp3 HOf HEa
    go_wp2_with fail
    refine HOr.out.mono ?_
    rintro e w4 ⟨v4, R4, rfl, he4, ho4⟩
    as_aux_lemma =>
      obtain ⟨V, hV⟩ : ∃ V, (sizesL s).length = V := ⟨_, rfl⟩
      have hVl : (orderL s r).length = V := by rw [order_len HT.out HR.out, hV]
      have hV3 : 3 ≤ V := by rw [← hV]; exact HT.out.big
      have hVm : V ≤ 1000 := by have := HVm.out; rw [HN.out, hV] at this; omega
      have HVq := Lib.hid hV
      obtain ⟨a4, c4, rfl, _⟩ := ho4.ints.open
      rw [hVl] at ho4 ⊢
      have HE4 := Lib.hid (HE3.out.trans he4)
      have HO4 := Lib.hid ho4
      have HP4 := Lib.hid (he4.map HP.out)
      have HVl := Lib.hid hVl
      clear he4 ho4 HP HE3 HOr hVl hV HVm
      obtain ⟨M, hM⟩ : ∃ M, V - 2 = M := ⟨_, rfl⟩
      obtain ⟨K, hK⟩ : ∃ K, 3 + kk % M = K := ⟨_, rfl⟩
      have hMp : 0 < M := by omega
      have hKM : kk % M < M := Nat.mod_lt _ hMp
      have hK3 : 3 ≤ K := by omega
      have hKV : K ≤ V := by omega
      have hw1 : IntKind.i64.wrap (kk : Int) = (kk : Int) := IntWalk.i64_in _ (by omega)
      have hw2 : IntKind.i64.wrap ((V : Int) - 2) = (M : Int) := by rw [show (V : Int) - 2 = (M : Int) by omega]; exact IntWalk.i64_in _ (by omega)
      obtain ⟨km, hkm⟩ : ∃ km, kk % M = km := ⟨_, rfl⟩
      have hr1 : (kk : Int).tmod (M : Int) = (km : Int) := by rw [← hkm]; rfl
      have hr2 : (kk : Int) % (M : Int) = (km : Int) := by rw [← hkm]; rfl
      have hnz : ¬ (M : Int) = 0 := by omega
      have hnz' : ¬ M = 0 := by omega
      have hw3 : IntKind.i64.wrap (3 + (km : Int)) = (K : Int) := by rw [show 3 + (km : Int) = (K : Int) by omega]; exact IntWalk.i64_in _ (by omega)
      have hb1 : (K : Int) ≤ (V : Int) := by omega
      have hb2 : (0 : Int) ≤ (K : Int) := by omega
      have hcap : V ≤ c4 := by have := HO4.out.capLe HVl.out; omega
      have hb3 : (K : Int) ≤ (c4 : Int) := by omega
      have hpl : Place (orderL s r) (plC (orderL s r)) := plC_place (order_nodup HT.out HR.out)
      obtain ⟨pl, hple⟩ : ∃ pl, plC (orderL s r) = pl := ⟨_, rfl⟩
      rw [hple] at hpl
      have HPl := Lib.hid hpl
      have HFT : Hid (FreeI R4 w4 (.slice a4 K c4) ((orderL s r).take K)) := Lib.hid (FreeI.first HO4.out.free K hKV)
      have HCt := Lib.hid (fun R' w' (h : Ev R4 w4 R' w') (x : Nat) (hx : x < N) => (by
        have hxs : x < s.length := by rw [HN.out]; exact hx
        have hh := contains_any w' a4 K c4 _ (nth (namesL s) x) (HFT.out.ev h).1 (by omega)
        have e : decide (nth (namesL s) x ∈ (orderL s r).take K) = decide (plD s pl x < K) := decide_eq_decide.2 (mem_first HT.out HR.out HPl.out hxs (by rw [HVq.out]; exact hKV))
        rw [e, vtx_eq HT.out.perm hxs] at hh
        exact hh : Calls Try.prog 12 #[.slice a4 K c4, .int .i64 (vtx s x : Int)] w' fun e w'' => w'' = w' ∧ e = .returned (.bool (decide (plD s pl x < K)))))
      have HVx := Lib.hid (fun R' w' (h : Ev R4 w4 R' w') (x : Nat) (hx : x < N) => by
        have := vertex_any R' w' h.inv p s (r : Int) 0 (h.map HP4.out) (x : Int)
        rwa [nameI_in (by rw [HN.out]; exact hx), vtx_eq HT.out.perm (by rw [HN.out]; exact hx)] at this)
      have HDt := Lib.hid (fun R' w' (h : Ev R4 w4 R' w') => by
        have := darts_any R' w' h.inv p s (r : Int) 0 (h.map HP4.out)
        rwa [HN.out] at this)
      have hev : N % 2 = 0 := by rw [← HN.out]; exact HT.out.even
      have HI4 := Lib.hid (Ev.refl HE4.out.inv)
      clear hK hKM hkm hM hpl hple
      go_wp2_with fail
      clear hw1 hw2 hw3 hr1 hr2 hnz hnz'
      as_aux_lemma =>
        go_loopg [15, 16] (N / 2) (fun g v15 v16 wq => ∃ (e em : Nat) (R6 : Reg), e ≤ N / 2 ∧ N / 2 - e ≤ g ∧ v15 = .int .i64 (em : Int) ∧ v16 = .int .i64 ((2 * e : Nat) : Int) ∧ Ev R4 w4 R6 wq ∧ em = edgesTo s pl K e)
        case atStart => exact ⟨0, 0, R4, Nat.zero_le _, by omega, rfl, rfl, HI4.out, rfl⟩
        case round =>
          obtain ⟨e, em, R6, heN, hge, rfl, rfl, heq, hem⟩ := hrel
          as_aux_lemma =>
            have HEq := Lib.hid heq
            have hel : em ≤ e := by rw [hem]; exact tally_le _ _
            have HEm := Lib.hid hem
            clear heq hem HI4
            obtain ⟨x, hx⟩ : ∃ x, 2 * e = x := ⟨_, rfl⟩
            rw [hx]
            have HD1 := Lib.hid (HDt.out _ _ HEq.out)
            by_cases hil : x < N
            · have HSu : Hid (edgesTo s pl K (e + 1) = em + if plD s pl x < K ∧ plD s pl (x + 1) < K then 1 else 0) := Lib.hid (by
                show tally _ e + ind (lateN s pl e < K) = _
                rw [HEm.out]
                unfold edgesTo
                have e1 : lateN s pl e < K ↔ plD s pl x < K ∧ plD s pl (x + 1) < K := by rw [← hx]; exact late_first HT.out HR.out HPl.out
                by_cases q : plD s pl x < K ∧ plD s pl (x + 1) < K
                · rw [if_pos q, ind_yes (e1.2 q)]
                · rw [if_neg q, ind_no (fun t => q (e1.1 t))])
              have hx1 : IntKind.i64.wrap ((x : Int) + 1) = ((x + 1 : Nat) : Int) := by rw [show (x : Int) + 1 = ((x + 1 : Nat) : Int) by omega]; exact IntWalk.i64_in _ (by omega)
              have hx2 : IntKind.i64.wrap ((x : Int) + 2) = ((x + 2 : Nat) : Int) := by rw [show (x : Int) + 2 = ((x + 2 : Nat) : Int) by omega]; exact IntWalk.i64_in _ (by omega)
              have he1 : IntKind.i64.wrap ((em : Int) + 1) = ((em + 1 : Nat) : Int) := by rw [show (em : Int) + 1 = ((em + 1 : Nat) : Int) by omega]; exact IntWalk.i64_in _ (by omega)
              have hb : decide ((x : Int) < (N : Int)) = true := decide_eq_true (by omega)
              have hx1N : x + 1 < N := by omega
              have heN2 : e + 1 ≤ N / 2 := by omega
              have HV1 := Lib.hid (HVx.out _ _ HEq.out x hil)
              have HV2 := Lib.hid (fun R' w' (h : Ev R4 w4 R' w') => by have := HVx.out R' w' h (x + 1) hx1N; rwa [show ((x + 1 : Nat) : Int) = (x : Int) + 1 from rfl] at this)
              have HC1 := Lib.hid (fun R' w' (h : Ev R4 w4 R' w') => HCt.out R' w' h x hil)
              have HC2 := Lib.hid (fun R' w' (h : Ev R4 w4 R' w') => HCt.out R' w' h (x + 1) hx1N)
              obtain ⟨va, hva⟩ : ∃ va, vtx s x = va := ⟨_, rfl⟩
              obtain ⟨vb, hvb⟩ : ∃ vb, vtx s (x + 1) = vb := ⟨_, rfl⟩
              rw [hva] at HV1 HC1
              rw [hvb] at HV2 HC2
              have HH := Lib.hid hx
              clear hva hvb hx
              go_wp2_with fail
              refine HD1.out.mono ?_
              rintro e' w' ⟨rfl, rfl⟩
              go_wp2_with fail
              refine HV1.out.mono ?_
              rintro e' wa ⟨rfl, Ra, hea⟩
              have HEa := Lib.hid (HEq.out.trans hea)
              clear hea HV1
              go_wp2_with fail
              refine (HC1.out _ _ HEa.out).mono ?_
              rintro e' wa2 ⟨rfl, rfl⟩
              by_cases p1 : plD s pl x < K
              · rw [decide_eq_true p1]
                go_wp2_with fail
                refine (HV2.out _ _ HEa.out).mono ?_
                rintro e' wb ⟨rfl, Rb, heb⟩
                have HEb := Lib.hid (HEa.out.trans heb)
                clear heb
                go_wp2_with fail
                refine (HC2.out _ _ HEb.out).mono ?_
                rintro e' wb2 ⟨rfl, rfl⟩
                by_cases p2 : plD s pl (x + 1) < K
                · rw [decide_eq_true p2]
                  have HS1 : Hid (edgesTo s pl K (e + 1) = em + 1) := Lib.hid (by rw [HSu.out, if_pos ⟨p1, p2⟩])
                  clear HSu p1 p2
                  go_wp2_with fail
                  go_roundg (N / 2 - (e + 1))
                  case measure => omega
                  case rel => exact ⟨e + 1, em + 1, Rb, by omega, by omega, by go_num, by rw [← HH.out]; go_num, HEb.out, HS1.out.symm⟩
                · rw [decide_eq_false p2]
                  have HS1 : Hid (edgesTo s pl K (e + 1) = em) := Lib.hid (by rw [HSu.out, if_neg (fun t => p2 t.2), Nat.add_zero])
                  clear HSu p1 p2
                  go_wp2_with fail
                  go_roundg (N / 2 - (e + 1))
                  case measure => omega
                  case rel => exact ⟨e + 1, em, Rb, by omega, by omega, by go_num, by rw [← HH.out]; go_num, HEb.out, HS1.out.symm⟩
              · rw [decide_eq_false p1]
                have HS1 : Hid (edgesTo s pl K (e + 1) = em) := Lib.hid (by rw [HSu.out, if_neg (fun t => p1 t.1), Nat.add_zero])
                clear HSu p1
                go_wp2_with fail
                go_roundg (N / 2 - (e + 1))
                case measure => omega
                case rel => exact ⟨e + 1, em, Ra, by omega, by omega, by go_num, by rw [← HH.out]; go_num, HEa.out, HS1.out.symm⟩
            · have hb : decide ((x : Int) < (N : Int)) = false := decide_eq_false (by omega)
              obtain rfl : e = N / 2 := by omega
              go_wp2_with fail
              refine HD1.out.mono ?_
              rintro e' w' ⟨rfl, rfl⟩
              go_wp2_with fail
              refine HD1.out.mono ?_
              rintro e' w' ⟨rfl, rfl⟩
              go_wp2_with fail
              have HG : Hid (Ev noReg w R6 wr) := Lib.hid (HE4.out.trans HEq.out)
              have HVx := Lib.hid (fun R' w' (h : Ev R6 wr R' w') => HVx.out R' w' (HEq.out.trans h))
              have HCt := Lib.hid (fun R' w' (h : Ev R6 wr R' w') => HCt.out R' w' (HEq.out.trans h))
              have HP6 := Lib.hid (HEq.out.map HP4.out)
              have HI6 := Lib.hid (Ev.refl HEq.out.inv)
              have hN2 : em ≤ N / 2 := hel
              obtain ⟨wd, hwd⟩ : ∃ wd : World, wd = wr := ⟨_, rfl⟩
              subst hwd
              clear HD1 HDt HEq HE4 HO4 HP4 HFT hel hge heN
              as_aux_lemma =>
                have HBo := Lib.hid (fun R' w' (h : Ev R6 wd R' w') (d : Nat) (hd : d < N) => by
                  have hd' : d < s.length := by rw [HN.out]; exact hd
                  have := border_any R' w' h.inv p s (r : Int) 0 (h.map HP6.out) (d : Int)
                  rwa [orbI_in (by rw [phiL_length]; exact hd'), HT.out.orb hd'] at this)
                have HFc := Lib.hid (fun R' w' (h : Ev R6 wd R' w') (d : Nat) (hd : d < N) => by
                  have := face_any R' w' h.inv p s (r : Int) 0 (h.map HP6.out) (d : Int)
                  rwa [nameI_in (by rw [phiL_length, HN.out]; exact hd)] at this)
                have HRo := Lib.hid (fun R' w' (h : Ev R6 wd R' w') => root_any R' w' h.inv p s (r : Int) 0 (h.map HP6.out))
                have HRN : Hid (r < N) := Lib.hid (by rw [← HN.out]; exact HR.out)
                go_loopg [17, 73] N (fun g v17 v73 wq => ∃ (d fm : Nat) (R7 : Reg), d ≤ N ∧ N - d ≤ g ∧ v17 = .int .i64 (fm : Int) ∧ v73 = .int .i64 (d : Int) ∧ Ev R6 wd R7 wq ∧ fm = facesTo s r pl K d)
                case atStart => exact ⟨0, 0, R6, Nat.zero_le _, by omega, rfl, rfl, HI6.out, rfl⟩
                case round =>
                  obtain ⟨d, fm, R7, hdN, hgd, rfl, rfl, he7, hfm⟩ := hrel
                  as_aux_lemma =>
                    have HE7 := Lib.hid he7
                    have hfl : fm ≤ d := by rw [hfm]; exact tally_le _ _
                    have HFm := Lib.hid hfm
                    clear he7 hfm HI6
                    obtain ⟨wq, hwq⟩ : ∃ wq : World, wq = wr := ⟨_, rfl⟩
                    subst hwq
                    by_cases hil : d < N
                    · have hds : d < s.length := by rw [HN.out]; exact hil
                      have HSu : Hid (facesTo s r pl K (d + 1) = fm + ind ((Lst s d ∧ OffR s r d) ∧ lateF s pl d < K)) := Lib.hid (by rw [HFm.out]; rfl)
                      have HB1 := Lib.hid (HBo.out _ _ HE7.out d hil)
                      obtain ⟨d1, hd1⟩ : ∃ x, at' (phiL s) d = x := ⟨_, rfl⟩
                      obtain ⟨d2, hd2⟩ : ∃ x, at' (phiL s) d1 = x := ⟨_, rfl⟩
                      have hd1N : d1 < N := by rw [← hd1, ← HN.out]; exact HT.out.phl hds
                      have hd2N : d2 < N := by rw [← hd2, ← HN.out]; exact HT.out.phl (by rw [HN.out]; exact hd1N)
                      have hlf : lateF s pl d < K ↔ plD s pl d < K ∧ plD s pl d1 < K ∧ plD s pl d2 < K := by rw [← hd2, ← hd1]; exact lateF_first HT.out HR.out HPl.out
                      have hls : Lst s d ↔ d < d1 ∧ d < d2 := by unfold Lst; rw [hd1, hd2]
                      have hne : d ≠ d1 ∧ d ≠ d2 := by
                        have n1 := (HT.out.three d hds).2
                        have n2 := (HT.out.three _ (HT.out.phl (HT.out.phl hds))).2
                        rw [(HT.out.three d hds).1] at n2
                        rw [hd1] at n1 n2
                        rw [hd2] at n2
                        exact ⟨fun e => n1 e.symm, n2⟩
                      rw [hd1, hd2] at HB1
                      have HTd : Hid (∀ i, i < 3 → ∃ y : Nat, nth (toI [d, d1, d2]) i = (y : Int) ∧ y < N ∧ ((i = 0 ∧ y = d) ∨ (i = 1 ∧ y = d1) ∨ (i = 2 ∧ y = d2))) := Lib.hid fun i hi => by
                        match i, hi with
                        | 0, _ => exact ⟨d, rfl, hil, .inl ⟨rfl, rfl⟩⟩
                        | 1, _ => exact ⟨d1, rfl, hd1N, .inr (.inl ⟨rfl, rfl⟩)⟩
                        | 2, _ => exact ⟨d2, rfl, hd2N, .inr (.inr ⟨rfl, rfl⟩)⟩
                      obtain ⟨TI, hTI⟩ : ∃ TI, toI [d, d1, d2] = TI := ⟨_, rfl⟩
                      have hTl : TI.length = 3 := by rw [← hTI]; rfl
                      rw [hTI] at HB1 HTd
                      have hmin : ∀ m : Int, (∃ i, i < 3 ∧ nth TI i = m) → (∀ i, i < 3 → m ≤ nth TI i) → ((m == (d : Int)) = true ↔ Lst s d) := fun m ⟨i, hi, e⟩ h2 => by
                        have t0 : nth TI 0 = (d : Int) := by rw [← hTI]; rfl
                        have t1 : nth TI 1 = (d1 : Int) := by rw [← hTI]; rfl
                        have t2 : nth TI 2 = (d2 : Int) := by rw [← hTI]; rfl
                        have m0 := h2 0 (by omega)
                        have m1 := h2 1 (by omega)
                        have m2 := h2 2 (by omega)
                        have hm : m = (d : Int) ∨ m = (d1 : Int) ∨ m = (d2 : Int) := by
                          match i, hi with
                          | 0, _ => exact .inl (by rw [← e, t0])
                          | 1, _ => exact .inr (.inl (by rw [← e, t1]))
                          | 2, _ => exact .inr (.inr (by rw [← e, t2]))
                        rw [t0] at m0
                        rw [t1] at m1
                        rw [t2] at m2
                        rw [hls, beq_iff_eq]
                        omega
                      have HMn := Lib.hid hmin
                      have HLf := Lib.hid hlf
                      have HTl := Lib.hid hTl
                      clear hlf hls hne hmin hTI hTl hd1 hd2
                      go_wp2_with fail
                      refine HB1.out.mono ?_
                      rintro e' wb ⟨vb, rfl, heb, hob⟩
                      obtain ⟨ab, cb, rfl, _⟩ := hob.ints.open
                      rw [HTl.out] at hob ⊢
                      have HEb := Lib.hid (HE7.out.trans heb)
                      have HOb := Lib.hid hob
                      have HSm := Lib.hid (smin_any wb ab 3 cb TI hob.ints (by omega) (by omega))
                      clear heb hob HB1
                      go_wp2_with fail
                      refine HSm.out.mono ?_
                      rintro e' wb2 ⟨rfl, m, rfl, hm1, hm2⟩
                      have hmb := HMn.out m hm1 hm2
                      obtain ⟨B0, hB0⟩ : ∃ B0, (m == (d : Int)) = B0 := ⟨_, rfl⟩
                      rw [hB0] at hmb
                      have HB0 := Lib.hid hmb
                      clear hm1 hm2 hmb HSm HMn
                      go_wp2_with fail
                      go_loopg [20, 85] 3 (fun g v20 v85 wz => ∃ (i : Nat) (Bq : Bool) (R8 : Reg), i ≤ 3 ∧ 3 - i ≤ g ∧ v20 = .bool Bq ∧ v85 = .int .i64 (i : Int) ∧ Ev R6 wd R8 wz ∧ OwnI R8 wq.heap.size 3 wz (.slice ab 3 cb) TI ∧ (Bq = true ↔ Lst s d ∧ (0 < i → plD s pl d < K) ∧ (1 < i → plD s pl d1 < K) ∧ (2 < i → plD s pl d2 < K)))
                      case atStart => exact ⟨0, B0, _, by omega, by omega, rfl, rfl, HEb.out, HOb.out, by
                        rw [HB0.out]
                        exact ⟨fun q => ⟨q, fun h => absurd h (by omega), fun h => absurd h (by omega), fun h => absurd h (by omega)⟩, fun q => q.1⟩⟩
                      case round =>
                        obtain ⟨i, Bq, R8, hi3, hg8, rfl, rfl, he8, ho8, hBq⟩ := hrel
                        as_aux_lemma =>
                          have HE8 := Lib.hid he8
                          have HO8 := Lib.hid ho8
                          have HBq := Lib.hid hBq
                          clear he8 ho8 hBq hB0
                          by_cases hi : i < 3
                          · obtain ⟨gb, rfl, _, _, hc, _⟩ := HO8.out.headAt HTl.out (i := i) hi
                            obtain ⟨y, hy, hyN, hyc⟩ := HTd.out i hi
                            rw [hy] at hc
                            have HYc := Lib.hid hyc
                            have HV8 := Lib.hid (HVx.out _ _ HE8.out y hyN)
                            have HC8 := Lib.hid (fun R' w' (h : Ev R6 wd R' w') => HCt.out R' w' h y hyN)
                            obtain ⟨vy, hvy⟩ : ∃ vy, vtx s y = vy := ⟨_, rfl⟩
                            rw [hvy] at HV8 HC8
                            clear hy hyc hvy
                            cases Bq
                            · have HN : Hid (¬ (Lst s d ∧ (0 < i → plD s pl d < K) ∧ (1 < i → plD s pl d1 < K) ∧ (2 < i → plD s pl d2 < K))) := Lib.hid fun q => by have := HBq.out.2 q; cases this
                              go_wp2_with fail
                              go_roundg (3 - (i + 1))
                              case measure => omega
                              case rel => exact ⟨i + 1, false, R8, by omega, by omega, rfl, by go_num, HE8.out, HO8.out, ⟨fun q => absurd q (by decide), fun q => absurd ⟨q.1, fun h => q.2.1 (by omega), fun h => q.2.2.1 (by omega), fun h => q.2.2.2 (by omega)⟩ HN.out⟩⟩
                            · have hB := HBq.out.1 rfl
                              have HB := Lib.hid hB
                              clear hB
                              go_wp2_with fail
                              refine HV8.out.mono ?_
                              rintro e' w8 ⟨rfl, R9, he9⟩
                              have HE9 := Lib.hid (HE8.out.trans he9)
                              have HO9 := Lib.hid (HO8.out.ev he9)
                              clear he9
                              go_wp2_with fail
                              refine (HC8.out _ _ HE9.out).mono ?_
                              rintro e' w9 ⟨rfl, rfl⟩
                              obtain ⟨By, hBy⟩ : ∃ By, decide (plD s pl y < K) = By := ⟨_, rfl⟩
                              have hByi : By = true ↔ plD s pl y < K := by rw [← hBy]; exact decide_eq_true_iff
                              rw [hBy]
                              have HBy := Lib.hid hByi
                              clear hBy hByi
                              go_wp2_with fail
                              go_roundg (3 - (i + 1))
                              case measure => omega
                              case rel => exact ⟨i + 1, By, R9, by omega, by omega, rfl, by go_num, HE9.out, HO9.out, by
                                rw [HBy.out]
                                have hB := HB.out
                                rcases HYc.out with ⟨rfl, rfl⟩ | ⟨rfl, rfl⟩ | ⟨rfl, rfl⟩
                                · exact ⟨fun q => ⟨hB.1, fun _ => q, fun h => absurd h (by omega), fun h => absurd h (by omega)⟩, fun q => q.2.1 (by omega)⟩
                                · exact ⟨fun q => ⟨hB.1, fun _ => hB.2.1 (by omega), fun _ => q, fun h => absurd h (by omega)⟩, fun q => q.2.2.1 (by omega)⟩
                                · exact ⟨fun q => ⟨hB.1, fun _ => hB.2.1 (by omega), fun _ => hB.2.2.1 (by omega), fun _ => q⟩, fun q => q.2.2.2 (by omega)⟩⟩
                          · obtain rfl : i = 3 := by omega
                            have HBl : Hid (Bq = true ↔ Lst s d ∧ lateF s pl d < K) := Lib.hid (by
                              rw [HBq.out, HLf.out]
                              exact ⟨fun q => ⟨q.1, q.2.1 (by omega), q.2.2.1 (by omega), q.2.2.2 (by omega)⟩, fun q => ⟨q.1, fun _ => q.2.1, fun _ => q.2.2.1, fun _ => q.2.2.2⟩⟩)
                            have hw5 : IntKind.i64.wrap ((fm : Int) + 1) = ((fm + 1 : Nat) : Int) := by rw [show (fm : Int) + 1 = ((fm + 1 : Nat) : Int) by omega]; exact IntWalk.i64_in _ (by omega)
                            have HFd := Lib.hid (HFc.out _ _ HE8.out d hil)
                            have HFr := Lib.hid (fun R' w' (h : Ev R6 wd R' w') => HFc.out R' w' h r HRN.out)
                            have hoff := face_off HT.out HR.out hds
                            obtain ⟨f1, hf1⟩ : ∃ f1, nth (namesL (phiL s)) d = f1 := ⟨_, rfl⟩
                            obtain ⟨f2, hf2⟩ : ∃ f2, nth (namesL (phiL s)) r = f2 := ⟨_, rfl⟩
                            rw [hf1] at HFd hoff
                            rw [hf2] at HFr hoff
                            have HOff := Lib.hid hoff
                            clear hoff hf1 hf2 HBq
                            cases Bq
                            · have HS1 : Hid (facesTo s r pl K (d + 1) = fm) := Lib.hid (by rw [HSu.out, ind_no (fun q => by have := HBl.out.2 ⟨q.1.1, q.2⟩; cases this), Nat.add_zero])
                              go_wp2_with fail
                              go_roundg (N - (d + 1))
                              case measure => omega
                              case rel => exact ⟨d + 1, fm, R8, by omega, by omega, rfl, by go_num, HE8.out, HS1.out.symm⟩
                            · have HBt := Lib.hid (HBl.out.1 rfl)
                              go_wp2_with fail
                              refine HFd.out.mono ?_
                              rintro e' wf ⟨rfl, R9, he9⟩
                              have HE9 := Lib.hid (HE8.out.trans he9)
                              clear he9
                              go_wp2_with fail
                              refine (HRo.out _ _ HE9.out).mono ?_
                              rintro e' wf2 ⟨rfl, rfl⟩
                              go_wp2_with fail
                              refine (HFr.out _ _ HE9.out).mono ?_
                              rintro e' wg ⟨rfl, R10, he10⟩
                              have HE10 := Lib.hid (HE9.out.trans he10)
                              clear he10
                              by_cases hff : f1 = f2
                              · have HS1 : Hid (facesTo s r pl K (d + 1) = fm) := Lib.hid (by rw [HSu.out, ind_no (fun q => HOff.out.2 q.1.2 hff), Nat.add_zero])
                                have hbf : (f1 != f2) = false := by simp [hff]
                                go_wp2_with fail
                                go_roundg (N - (d + 1))
                                case measure => omega
                                case rel => exact ⟨d + 1, fm, R10, by omega, by omega, rfl, by go_num, HE10.out, HS1.out.symm⟩
                              · have HS1 : Hid (facesTo s r pl K (d + 1) = fm + 1) := Lib.hid (by rw [HSu.out, ind_yes ⟨⟨HBt.out.1, HOff.out.1 hff⟩, HBt.out.2⟩])
                                have hbf : (f1 != f2) = true := by simp [hff]
                                go_wp2_with fail
                                go_roundg (N - (d + 1))
                                case measure => omega
                                case rel => exact ⟨d + 1, fm + 1, R10, by omega, by omega, by go_num, by go_num, HE10.out, HS1.out.symm⟩
                    · obtain rfl : N = d := by omega
                      have hgr := grows HT.out HR.out HPl.out (n := K) (by omega) (by rw [HVq.out]; exact hKV)
                      have hgr2 : fm + K = em + 1 := by
                        rw [HFm.out, HEm.out]
                        unfold facesTo edgesTo
                        rw [HN.out] at hgr
                        exact hgr
                      clear hgr
                      have hw5 : IntKind.i64.wrap ((em : Int) - (K : Int)) = (em : Int) - (K : Int) := IntWalk.i64_in _ (by omega)
                      have hw6 : IntKind.i64.wrap ((em : Int) - (K : Int) + 1) = (fm : Int) := by rw [show (em : Int) - (K : Int) + 1 = (fm : Int) by omega]; exact IntWalk.i64_in _ (by omega)
                      clear hgr2
                      go_wp2_with fail
                      go_ret
                      exact ⟨by first | rfl | (simp; done), R7, HG.out.trans HE7.out⟩
end Go.Proofs.Ytcnmbenfnpjkjaa
