/- parquetrylaw11.CanonRoots, the walk: it answers true. Conditions: the bytes lie in memory. How many come to a dart, told while a map is gone over; how many darts are alike divides how many there are. Plain law. Conditions: the map is of one part. parquetryref11.Names: the document's canonical names. Conditions: the map's list lies in memory. -/
import Derived.Test.YtlbhmonpfchocaaZCanonIso26
import Derived.Test.YtlbhmonpfchocaaZCanonIso18
import Derived.Test.YtlbhmonpfchocaaZCanonIso11
import Derived.Test.YtlbhmonpfchocaaZCanonIso23
namespace Go.Proofs.Ytlbhmonpfchocaa
open Go.RowKit
set_option linter.unusedVariables false

/-- the canonical map of a canonical map is itself -/
theorem canM_canM {s : List Nat} {root : Int} (hs : IsPerm s) (hok : MapOk s root 0) : canM (canM s root) (canR s root) = canM s root ∧ canR (canM s root) (canR s root) = canR s root ∧ (∀ i, i < s.length → at' (canPm (canM s root) (canR s root)) i = i) ∧ (canM s root).length = s.length ∧ (canPm (canM s root) (canR s root)).length = s.length := by
  have he := hok.1
  by_cases h0 : s.length = 0
  · have e1 : canM s root = s := by unfold canM; rw [if_pos h0]
    have e2 : canR s root = root := by unfold canR; rw [if_pos h0]
    rw [e1, e2]
    refine ⟨e1, e2, fun i hi => by omega, rfl, ?_⟩
    unfold canPm
    rw [if_pos h0, h0]; rfl
  · obtain ⟨r, rfl, hr⟩ : ∃ r : Nat, root = (r : Int) ∧ r < s.length := ⟨root.toNat, by have := hok.2.2.2.2; omega, by have := hok.2.2.2.2; omega⟩
    have e1 : canM s (r : Int) = relL s (canL s r) := by unfold canM; rw [if_neg h0, Int.toNat_natCast]
    have e2 : canR s (r : Int) = 0 := by unfold canR; rw [if_neg h0]
    have hl : (canM s (r : Int)).length = s.length := by rw [e1, relL_length]
    have hc : canL (canM s (r : Int)) 0 = List.range s.length := by rw [e1]; exact can_can hs he hr
    have e3 : canPm (canM s (r : Int)) 0 = List.range s.length := by
      unfold canPm
      rw [hl, if_neg h0]
      exact hc
    have hp : IsPerm (canM s (r : Int)) := by rw [e1]; exact relL_perm hs (canL_perm hs he hr) (canP_length _ _)
    have e4 : canM (canM s (r : Int)) 0 = canM s (r : Int) := by
      have e5 : ∀ t : List Nat, ¬ t.length = 0 → canM t 0 = relL t (canL t 0) := fun t ht => by unfold canM; rw [if_neg ht]; rfl
      have e6 := e5 (canM s (r : Int)) (by rw [hl]; exact h0)
      rw [e6, hc]
      have := rel_range hp
      rwa [hl] at this
    rw [e2]
    refine ⟨e4, ?_, ?_, hl, ?_⟩
    · unfold canR; rw [hl, if_neg h0]
    · intro i hi
      rw [e3]
      simp [at', hi]
    · rw [e3, List.length_range]
theorem shapeTo_pos {s : List Nat} {root : Int} {d : Nat} (h : canM s (d : Int) = canM s root) : ∀ k, d < k → 0 < shapeTo s root k
  | 0, hk => by omega
  | k + 1, hk => by
    show 0 < shapeTo s root k + _
    by_cases e : d = k
    · subst e; rw [if_pos h]; omega
    · have := shapeTo_pos h k (by omega); omega
/-- where there is one alone, no other dart is alike -/
theorem shapeTo_one {s : List Nat} {root : Int} {a b : Nat} (ha : canM s (a : Int) = canM s root) (hb : canM s (b : Int) = canM s root) (hab : a < b) : ∀ k, b < k → 2 ≤ shapeTo s root k
  | 0, hk => by omega
  | k + 1, hk => by
    show 2 ≤ shapeTo s root k + _
    by_cases e : b = k
    · subst e
      have := shapeTo_pos ha b hab
      rw [if_pos hb]; omega
    · have := shapeTo_one ha hb hab k (by omega); omega

set_option maxRecDepth 100000 in
set_option maxHeartbeats 8000000 in
theorem canonRoots_walk (w : World) (n rt ok : Nat) (hn : n ≤ 255) (hr : rt ≤ 255) (ho : ok ≤ 255) (v : Value) (bs : List Nat) (hv : FreeB noReg w v bs) :
    Calls Try.prog 7 #[.int .u8 (n : Int), v, .int .u8 (rt : Int), .int .u8 (ok : Int)] w (RetTrue noReg w) := by
  have HA := Lib.hid (awake11_any noReg w (Inv.noReg w))
  have hnot := not_run
  have HV := Lib.hid hv
  have hS := mixL_perm (2 * (n % 9)) bs
  have hSl := mixL_length (2 * (n % 9)) bs
  have hok0 := made_ok (n % 9) rt bs 0 (by omega) (by omega)
  have HM := Lib.hid (fun R w' (hI : Inv R w') (hv : FreeB R w' v bs) => (by
    have h := rany_any R w' hI (n % 9) (by omega) v bs hv rt hr
    rw [show ((n % 9 : Nat) : Int) = (n : Int) % 9 from by omega] at h
    exact h : Calls Try.prog 25 #[.int .i64 ((n : Int) % 9), v, .int .u8 (rt : Int)] w' (RetMap R w' (mixL (2 * (n % 9)) bs) (anyRoot (n % 9) rt) 0)))
  obtain ⟨S, hSe⟩ : ∃ S, mixL (2 * (n % 9)) bs = S := ⟨_, rfl⟩
  obtain ⟨r, hre⟩ : ∃ r, anyRoot (n % 9) rt = r := ⟨_, rfl⟩
  obtain ⟨m, hm⟩ : ∃ m, 2 * (n % 9) = m := ⟨_, rfl⟩
  have hm22 : m ≤ 22 := by omega
  have hev : m % 2 = 0 := by omega
  simp only [show ((0 : Nat) : Int) = 0 from rfl] at hok0
  rw [hSe, hre] at HM hok0
  rw [hSe, hm] at hSl
  rw [hSe] at hS
  rw [← hSl] at hev hm22
  obtain ⟨a0, c0, rfl, _⟩ := hv
  clear hSe hre hm hSl
  have HS := Lib.hid hS
  have HEv := Lib.hid hev
  have HOk := Lib.hid hok0
  clear hS hok0
  go_enter Try.func7, Try.ntmps7
  go_wp2_with fail
  refine HA.out.mono ?_
  rintro e w1 ⟨rfl, R1, he1⟩
  have HE1 := Lib.hid he1
  clear he1
  go_wp2_with fail
  refine (HM.out R1 w1 HE1.out.inv (HV.out.ev HE1.out)).mono ?_
  rintro e w2 ⟨a1, c1, rfl, he2, ho2⟩
  unfold refV
  have hnone : R1 w2.heap.size = none := he2.inv.none_of_ge (Nat.le_refl _)
  have hI3 := he2.inv.alloc (.cells #[.slice a1 S.length c1, .int .i64 r, .int .i64 0] 34)
  have hf3 := ho2.free.ev ((Ev.refl he2.inv).alloc (.cells #[.slice a1 S.length c1, .int .i64 r, .int .i64 0] 34))
  have HE2 := Lib.hid (HE1.out.trans he2)
  have HX := Lib.hid (fun R' w' (h : Ev R1 (w2.alloc (.cells #[.slice a1 S.length c1, .int .i64 r, .int .i64 0] 34)) R' w') => h.ref3 hnone)
  have HF3 := Lib.hid hf3
  have HI3 := Lib.hid hI3
  clear he2 ho2 hI3 hnone hf3
  go_upto_region 4 with fail
  obtain ⟨w3, hw3⟩ : ∃ w3, w3 = w2.alloc (.cells #[.slice a1 S.length c1, .int .i64 r, .int .i64 0] 34) := ⟨_, rfl⟩
  have HE3 : Hid (Ev noReg w R1 w3) := by rw [hw3]; exact HE2.out.alloc _
  rw [← hw3] at HX HF3 HI3 ⊢
  clear hw3 HE2
  have hcc := canM_canM HS.out HOk.out
  have HOf := Lib.hid (of11_any R1 w3 HI3.out _ S r 0 HF3.out HS.out HOk.out)
  unfold refV at HOf
  obtain ⟨C, hC⟩ : ∃ C, canM S r = C := ⟨_, rfl⟩
  obtain ⟨cr, hcr⟩ : ∃ x, canR S r = x := ⟨_, rfl⟩
  rw [hC, hcr] at hcc
  have HC := Lib.hid hC
  have HCr := Lib.hid hcr
  obtain ⟨q1, q2, q3, q4, q5⟩ := hcc
  have HQ1 := Lib.hid q1
  have HQ2 := Lib.hid q2
  have HQ3 := Lib.hid q3
  have HQ5 := Lib.hid q5
  clear q1 q2 q3 q4 q5 hC hcr
  obtain ⟨x0, x1, x2⟩ := HX.out _ _ (Ev.refl HI3.out)
  go_wp2_with fail
  refine (HOf.out).mono ?_
  rintro e w4 ⟨p, R4, rfl, he4, hp4⟩
  have HE4 := Lib.hid he4
  have HP4 := Lib.hid hp4
  have hc := canon_any R4 w4 he4.inv p S r 0 hp4
  rw [HC.out, HCr.out] at hc
  have HK := Lib.hid hc
  clear he4 hp4 hc x0 x1 x2
  go_wp2_with fail
  refine (HK.out).mono ?_
  rintro e w5 ⟨c, pm, R5, rfl, he5, hc5, hpm5⟩
  have HE5 := Lib.hid (HE4.out.trans he5)
  have HP5 := Lib.hid (he5.map HP4.out)
  have HC5 := Lib.hid hc5
  have hc := canon_any R5 w5 he5.inv c C cr 0 hc5
  rw [HQ1.out, HQ2.out] at hc
  have HK := Lib.hid hc
  clear he5 hc5 hpm5 hc HP4 HE4
  go_wp2_with fail
  refine (HK.out).mono ?_
  rintro e w6 ⟨d, pm2, R6, rfl, he6, hd6, hpm6⟩
  have HE6 := Lib.hid (HE5.out.trans he6)
  have HP6 := Lib.hid (he6.map HP5.out)
  have HPm := Lib.hid hpm6
  have hs := msame_any R6 w6 he6.inv c d C C cr cr 0 0 (he6.map HC5.out) hd6
  rw [show sameB C C cr cr 0 0 = true by simp [sameB]] at hs
  have HSm := Lib.hid hs
  clear he6 hd6 hpm6 hs HP5 HE5
  go_wp2_with fail
  refine (HSm.out).mono ?_
  rintro e w7 ⟨rfl, he7⟩
  have HE7 := Lib.hid (HE6.out.trans he7)
  have HP7 := Lib.hid (he7.map HP6.out)
  have HPm7 := Lib.hid (he7.perm HPm.out)
  obtain ⟨x0, x1, x2⟩ := HX.out _ _ HE7.out
  clear he7 HP6 HE6 HPm HSm
  go_wp2_with fail
  obtain ⟨m, hm⟩ : ∃ m, S.length = m := ⟨_, rfl⟩
  rw [hm] at HQ3 HQ5 x0
  have HMl := Lib.hid hm
  have hm22' : m ≤ 22 := by omega
  obtain ⟨PM, hPM⟩ : ∃ P, canPm C cr = P := ⟨_, rfl⟩
  rw [hPM] at HQ3 HQ5 HPm7
  try rw [hm]
  clear hm hPM x0 x1 x2
  go_loopg [58] m (fun g v58 wr => ∃ (k : Nat), k ≤ m ∧ m - k ≤ g ∧ v58 = .int .i64 (k : Int) ∧ wr = w7)
  case atStart => exact ⟨0, Nat.zero_le _, by omega, rfl, rfl⟩
  case round =>
    obtain ⟨k, hk, hg, rfl, rfl⟩ := hrel
    by_cases hkm : k < m
    · have ha := at_any R6 wr HE7.out.inv pm2 PM HPm7.out (k : Int)
      rw [atI_in (by rw [HQ5.out]; exact hkm), HQ3.out k hkm] at ha
      have HAt := Lib.hid ha
      have hbb : ((k : Int) != (k : Int)) = false := by simp
      clear ha
      go_wp2_with fail
      refine HAt.out.mono ?_
      rintro e w' ⟨rfl, rfl⟩
      go_wp2_with fail
      go_roundg (m - (k + 1))
      case measure => omega
      case rel => exact ⟨k + 1, by omega, by omega, by go_num, rfl⟩
    · obtain rfl : k = m := by omega
      obtain ⟨w7, hw7⟩ : ∃ w7, w7 = wr := ⟨_, rfl⟩
      subst hw7
      obtain ⟨x0, x1, x2⟩ := HX.out _ _ HE7.out
      rw [HMl.out] at x0
      by_cases hk0 : k = 0
      · subst hk0
        go_wp2_with fail
        go_ret
        exact ⟨by simp, R6, HE3.out.trans HE7.out⟩
      · have hkb : ((k : Int) == 0) = false := by simp; omega
        have HPt := Lib.hid (r8parts_any R6 w7 HE7.out.inv _ S r 0 (HF3.out.ev HE7.out) HS.out (by omega) HEv.out (by omega))
        unfold refV at HPt
        rw [HMl.out] at HPt
        obtain ⟨PN, hPN⟩ : ∃ P, partsN S = P := ⟨_, rfl⟩
        rw [Nat.add_zero, hPN] at HPt
        have HPN := Lib.hid hPN
        clear hPN
        go_wp2_with fail
        refine HPt.out.mono ?_
        rintro e w8 ⟨v8, rfl, he8, a8, c8, rfl, _⟩
        have HE8 := Lib.hid (HE7.out.trans he8)
        have HP8 := Lib.hid (he8.map HP7.out)
        clear he8 HP7 HE7 HPt x0 x1 x2
        by_cases hP1 : PN = 1
        · subst hP1
          have HSh := Lib.hid (shape_any R6 w8 HE8.out.inv p S r 0 HP8.out)
          have hsv : shapeN S r 0 = shapeTo S r S.length := by unfold shapeN; rw [if_pos (by rw [HPN.out])]
          obtain ⟨sh, hsh⟩ : ∃ x, shapeN S r 0 = x := ⟨_, rfl⟩
          rw [hsh] at HSh hsv
          have HSv := Lib.hid hsv
          have hr0 : 0 ≤ r ∧ r < S.length := by have := HOk.out.2.2.2.2; have := HMl.out; omega
          obtain ⟨r0, rfl⟩ : ∃ r0 : Nat, r = (r0 : Int) := ⟨r.toNat, by omega⟩
          have hshl := shapeTo_le S (r0 : Int) S.length
          rw [← hsv] at hshl
          clear hsv hsh
          go_wp2_with fail
          refine HSh.out.mono ?_
          rintro e w9 ⟨rfl, R9, he9⟩
          have HE9 := Lib.hid (HE8.out.trans he9)
          have HP9 := Lib.hid (he9.map HP8.out)
          clear he9 HP8 HE8 HSh
          by_cases hs1 : sh = 1
          · subst hs1
            obtain ⟨x0, x1, x2⟩ := HX.out _ _ HE9.out
            rw [HMl.out] at x0
            obtain ⟨kk, hkk⟩ : ∃ x, ok % k = x := ⟨_, rfl⟩
            have hkl : kk < k := by rw [← hkk]; exact Nat.mod_lt _ (by omega)
            have hmod : (ok : Int) % (k : Int) = (kk : Int) := by rw [← hkk]; simp
            have HRt := Lib.hid (rooted_any R9 w9 HE9.out.inv p S (r0 : Int) 0 HP9.out (kk : Int))
            have hkz : (k : Int) ≠ 0 := by omega
            clear hkk
            go_wp2_with fail
            refine HRt.out.mono ?_
            rintro e wA (⟨h1, _⟩ | ⟨_, _, o, RA, rfl, heA, hoA⟩)
            · exact absurd h1 (by rw [HMl.out]; omega)
            · have HEA := Lib.hid (HE9.out.trans heA)
              have hi := iso_any RA wA.drew (heA.drew).inv o p S S (kk : Int) (r0 : Int) 0 0 hoA (heA.map HP9.out)
              have hiso : sameB (canM S (kk : Int)) (canM S (r0 : Int)) (canR S (kk : Int)) (canR S (r0 : Int)) ((0 : Nat) : Int) ((0 : Nat) : Int) = decide ((kk : Int) = (r0 : Int)) := by
                have hc : canR S (kk : Int) = canR S (r0 : Int) := by unfold canR; rw [if_neg (by rw [HMl.out]; exact hk0), if_neg (by rw [HMl.out]; exact hk0)]
                unfold sameB
                rw [hc]
                by_cases e : kk = r0
                · subst e; simp
                · have hne : ¬ canM S (kk : Int) = canM S (r0 : Int) := fun h => by
                    have h1 := HSv.out
                    have h3 := HMl.out
                    rcases Nat.lt_or_ge kk r0 with h2 | h2
                    · have := shapeTo_one (root := (r0 : Int)) h rfl h2 S.length (by omega)
                      omega
                    · have := shapeTo_one (root := (r0 : Int)) rfl h (show r0 < kk by omega) S.length (by omega)
                      omega
                  have hne2 : ¬ ((kk : Int) = (r0 : Int)) := by omega
                  simp [hne, hne2]
                  try omega
              rw [hiso] at hi
              have HIs := Lib.hid hi
              obtain ⟨B, hB⟩ : ∃ B, decide ((kk : Int) = (r0 : Int)) = B := ⟨_, rfl⟩
              have hbq : ((kk : Int) == (r0 : Int)) = B := by rw [← hB]; exact Bool.eq_iff_iff.2 (by simp)
              rw [hB] at HIs
              have hx := fun R' w' (h : Ev RA wA R' w') => HX.out _ _ (HEA.out.trans h)
              have HXa := Lib.hid hx
              obtain ⟨x0, x1, x2⟩ := hx _ _ ((Ev.refl heA.inv).drew)
              clear heA hoA hi hiso hB hx
              have HE0 := Lib.hid ((Ev.refl HEA.out.inv).drew)
              go_wp2_with fail
              go_region_with (go_at_call 29; refine HIs.out.mono ?_; rintro e wB ⟨rfl, RB, heB⟩; have HEB := Lib.hid (HE0.out.trans heB); clear heB; obtain ⟨x0, x1, x2⟩ := HXa.out _ _ HEB.out)
              all_goals (go_wp2_with fail)
              all_goals go_ret
              all_goals exact ⟨by first | rfl | (simp; done) | (simp [Act.put]; done) | simp [go_sem], RB, HE3.out.trans (HEA.out.trans HEB.out)⟩
          · have hsb : ((sh : Int) != 1) = true := by simp; omega
            go_wp2_with fail
            go_ret
            exact ⟨by simp, R9, HE3.out.trans HE9.out⟩
        · have hpb : ((PN : Int) != 1) = true := by simp; omega
          have hpn := partsN_le HS.out HEv.out
          rw [HPN.out] at hpn
          go_wp2_with fail
          go_ret
          exact ⟨by simp, R6, HE3.out.trans HE8.out⟩

end Go.Proofs.Ytlbhmonpfchocaa

namespace Go.Proofs.Ytlbhmonpfchocaa
set_option linter.unusedVariables false

def cb (P : List (Nat × Nat)) (lf : Nat → Bool) (y : Nat) : Nat := (P.filter fun p => p.2 == y && !lf p.1).length
theorem cb_congr {P : List (Nat × Nat)} {lf lg : Nat → Bool} (h : ∀ p, p ∈ P → lf p.1 = lg p.1) (y : Nat) : cb P lf y = cb P lg y := by
  unfold cb
  congr 1
  exact List.filter_congr fun p hp => by rw [h p hp]
theorem cb_step : ∀ {P : List (Nat × Nat)}, (P.map Prod.fst).Nodup → ∀ {lf : Nat → Bool} {x y : Nat}, (x, y) ∈ P → lf x = true → ∀ z, cb P (fun j => lf j && !decide (j = x)) z = cb P lf z + if z = y then 1 else 0
  | [], _, lf, x, y, h, _, z => by cases h
  | p :: P, hn, lf, x, y, h, hl, z => by
    simp only [List.map_cons, List.nodup_cons] at hn
    rcases List.mem_cons.1 h with e | h
    · subst e
      have h1 : cb P (fun j => lf j && !decide (j = x)) z = cb P lf z := cb_congr (fun p hp => by
        have : p.1 ≠ x := fun e => hn.1 (List.mem_map.2 ⟨p, hp, e⟩)
        simp [this]) z
      unfold cb at h1 ⊢
      rw [List.filter_cons, List.filter_cons]
      by_cases e : z = y
      · subst e
        simp only [hl, BEq.rfl, decide_true, Bool.not_true, Bool.and_false, Bool.not_false, Bool.and_true, if_true, Bool.false_eq_true, if_false, List.length_cons, h1]
      · have e' : (y == z) = false := by simp; exact fun h => e h.symm
        simp only [e', Bool.false_and, Bool.false_eq_true, if_false, h1, e, Nat.add_zero]
    · have hx : p.1 ≠ x := fun e => hn.1 (List.mem_map.2 ⟨_, h, e.symm⟩)
      have ih := cb_step hn.2 h hl z
      unfold cb at ih ⊢
      rw [List.filter_cons, List.filter_cons]
      have e1 : (p.2 == z && !(lf p.1 && !decide (p.1 = x))) = (p.2 == z && !lf p.1) := by simp [hx]
      rw [e1]
      split
      · rw [List.length_cons, List.length_cons, ih]; omega
      · exact ih
theorem cb_none {P : List (Nat × Nat)} {lf : Nat → Bool} (h : ∀ x, lf x = false) (y : Nat) : cb P lf y = cntV P y := by
  unfold cb cntV
  congr 1
  exact List.filter_congr fun p hp => by simp [h]
theorem cb_all {P : List (Nat × Nat)} {lf : Nat → Bool} (h : ∀ p, p ∈ P → lf p.1 = true) (y : Nat) : cb P lf y = 0 := by
  unfold cb
  rw [List.length_eq_zero_iff, List.filter_eq_nil_iff]
  intro p hp
  simp [h p hp]

/-- where each element stands k times, k divides how many there are -/
theorem count_div {α : Type} [DecidableEq α] (k : Nat) : ∀ (n : Nat) (l : List α), l.length ≤ n → (∀ x, x ∈ l → l.count x = k) → l.length % k = 0
  | _, [], _, _ => by simp
  | 0, x :: l, hn, _ => by simp at hn
  | n + 1, x :: l, hn, h => by
    have h1 := h x List.mem_cons_self
    have hlen : (x :: l).length = (x :: l).count x + ((x :: l).filter fun y => decide (y ≠ x)).length := by
      have := List.length_eq_countP_add_countP (fun y => decide (y = x)) (l := x :: l)
      have e1 : (x :: l).count x = (x :: l).countP (fun y => decide (y = x)) := by
        rw [List.count_eq_countP]
        exact List.countP_congr fun y _ => by simp
      have e2 : ((x :: l).filter fun y => decide (y ≠ x)).length = (x :: l).countP (fun y => decide ¬(decide (y = x) = true)) := by
        rw [← List.countP_eq_length_filter]
        exact List.countP_congr fun y _ => by simp
      rw [e1, e2]
      exact this
    have hk : 0 < k := by rw [← h1]; exact List.count_pos_iff.2 List.mem_cons_self
    have ih := count_div k n ((x :: l).filter fun y => decide (y ≠ x)) (by rw [h1] at hlen; omega) fun y hy => by
      obtain ⟨hy1, hy2⟩ := List.mem_filter.1 hy
      rw [List.count_filter (p := fun y => decide (y ≠ x)) (a := y) (l := x :: l) hy2]
      exact h y hy1
    rw [hlen, h1, Nat.add_mod, ih]
    simp

section
variable {S : List Nat} (hs : IsPerm S) (he : S.length % 2 = 0) (h1 : partsN S ≤ 1)
include hs he h1
/-- of each dart as many are alike -/
theorem alike_le {r e : Nat} (hr : r < S.length) (hel : e < S.length) : ((List.range S.length).filter fun (d : Nat) => decide (canM S (d : Int) = canM S (r : Int))).length ≤ ((List.range S.length).filter fun (d : Nat) => decide (canM S (d : Int) = canM S (e : Int))).length := by
  have h0 : ¬ S.length = 0 := by omega
  have cm : ∀ d : Nat, canM S (d : Int) = relL S (canL S d) := fun d => by unfold canM; rw [if_neg h0, Int.toNat_natCast]
  have key : ∀ d, d < S.length → canM S (d : Int) = canM S (r : Int) → ∃ t, Iso S S r d t := fun d hd h => by
    rw [cm, cm] at h
    exact (can_iso hs he hs rfl hr hd h1).1 h.symm
  have hg : ∃ g : Nat → List Nat, ∀ d, d < S.length → canM S (d : Int) = canM S (r : Int) → Iso S S r d (g d) :=
    ⟨fun d => if h : d < S.length ∧ canM S (d : Int) = canM S (r : Int) then Classical.choose (key d h.1 h.2) else [], fun d hd h => by
      have := Classical.choose_spec (key d hd h)
      simp only [dif_pos (show d < S.length ∧ canM S (d : Int) = canM S (r : Int) from ⟨hd, h⟩)]
      exact this⟩
  obtain ⟨g, hg⟩ := hg
  have hnd : (((List.range S.length).filter fun (d : Nat) => decide (canM S (d : Int) = canM S (r : Int))).map fun d => at' (g d) e).Nodup := by
    rw [List.nodup_iff_pairwise_ne, List.pairwise_map]
    have hn : ((List.range S.length).filter fun (d : Nat) => decide (canM S (d : Int) = canM S (r : Int))).Nodup := List.nodup_range.filter _
    refine (List.pairwise_iff_forall_sublist.2 fun {x y} hxy => ?_)
    have hx := List.mem_filter.1 (hxy.subset (List.mem_cons_self))
    have hy := List.mem_filter.1 (hxy.subset (List.mem_cons_of_mem _ List.mem_cons_self))
    have hne : x ≠ y := by
      have := hn.sublist hxy
      simp at this
      exact this
    have ix := hg x (List.mem_range.1 hx.1) (by simpa using hx.2)
    have iy := hg y (List.mem_range.1 hy.1) (by simpa using hy.2)
    intro heq
    apply hne
    have ex := can_one hs he ix.perm ix.len ix.mates h1 (r := e) (d := r) hel hr
    have ey := can_one hs he iy.perm iy.len iy.mates h1 (r := e) (d := r) hel hr
    rw [ix.rel, ix.root] at ex
    rw [iy.rel, iy.root, ← heq] at ey
    have hxe : at' (g x) e < S.length := by have := ix.perm.lt (i := e) (by rw [ix.len]; exact hel); rw [ix.len] at this; exact this
    exact (canL_perm hs he hxe).inj (by rw [show (canL S (at' (g x) e)).length = S.length from canP_length _ _]; exact List.mem_range.1 hx.1) (by rw [show (canL S (at' (g x) e)).length = S.length from canP_length _ _]; exact List.mem_range.1 hy.1) (ex.trans ey.symm)
  have := hnd.length_le_of_subset (l₂ := (List.range S.length).filter fun (d : Nat) => decide (canM S (d : Int) = canM S (e : Int))) fun z hz => by
    obtain ⟨d, hd, rfl⟩ := List.mem_map.1 hz
    have hd' := List.mem_filter.1 hd
    have i := hg d (List.mem_range.1 hd'.1) (by simpa using hd'.2)
    have hde : at' (g d) e < S.length := by have := i.perm.lt (i := e) (by rw [i.len]; exact hel); rw [i.len] at this; exact this
    refine List.mem_filter.2 ⟨List.mem_range.2 hde, ?_⟩
    have := relL_one hs he i.perm i.len i.mates h1 (r := e) hel
    rw [i.rel] at this
    rw [decide_eq_true_eq, cm, cm]
    exact this
  simpa using this
theorem shape_div {r : Nat} (hr : r < S.length) : S.length % shapeTo S (r : Int) S.length = 0 := by
  have hsh : ∀ (root : Int) (k : Nat), shapeTo S root k = ((List.range k).filter fun (d : Nat) => decide (canM S (d : Int) = canM S root)).length := fun root k => by
    induction k with
    | zero => rfl
    | succ k ih =>
      show shapeTo S root k + _ = _
      rw [ih, List.range_succ, List.filter_append, List.length_append]
      congr 1
      by_cases h : canM S (k : Int) = canM S root <;> simp [h]
  have hcd := count_div (α := List Nat) (shapeTo S (r : Int) S.length) S.length ((List.range S.length).map fun (d : Nat) => canM S (d : Int)) (by simp) fun x hx => by
    obtain ⟨e, hel, rfl⟩ := List.mem_map.1 hx
    have hel := List.mem_range.1 hel
    have : @List.count (List Nat) instBEqOfDecidableEq (canM S (e : Int)) ((List.range S.length).map fun (d : Nat) => canM S (d : Int)) = ((List.range S.length).filter fun (d : Nat) => decide (canM S (d : Int) = canM S (e : Int))).length := by
      have e0 : ∀ l : List (List Nat), @List.count (List Nat) instBEqOfDecidableEq (canM S (e : Int)) l = l.countP (fun x => decide (x = canM S (e : Int))) := fun l => rfl
      rw [e0, List.countP_map, List.countP_eq_length_filter]
      rfl
    rw [this, hsh]
    exact Nat.le_antisymm (alike_le hs he h1 hel hr) (alike_le hs he h1 hr hel)
  simpa using hcd
end
end Go.Proofs.Ytlbhmonpfchocaa

namespace Go.Proofs.Ytlbhmonpfchocaa
open Go.RowKit Go.Maps
set_option linter.unusedVariables false

/-- a map's box, later on -/
theorem Ev.boxC3 {R R' : Reg} {w0 w' : World} {b : Nat} {x y z : Value} {T : TypeId} (hb : w0.heap[b]? = some (.cells #[x, y, z] T (0, 0))) (hn : R b = none) (h : Ev R w0 R' w') :
    w'.heap[b]? = some (.cells #[x, y, z] T (0, 0)) ∧ R' b = none := ⟨(h.block b (lt_of_block hb) hn).trans hb, h.free b (lt_of_block hb) hn⟩
theorem boxC_cells {w : World} {b : Nat} {x y z : Value} {T : TypeId} (hb : w.heap[b]? = some (.cells #[x, y, z] T (0, 0))) : w.cell? ⟨b, 0, none⟩ = some x ∧ w.cell? ⟨b, 1, none⟩ = some y ∧ w.cell? ⟨b, 2, none⟩ = some z ∧ ∀ o, w.frozen? ⟨b, o, none⟩ = false :=
  ⟨cells_at hb 0, cells_at hb 1, cells_at hb 2, fun o => by simp [World.frozen?, hb]⟩
/-- the names so far, as a map -/
def nmO (F : List Nat) (k : Int) : Option Int := if 0 ≤ k ∧ hasE F k.toNat = true then some ((nmF F k.toNat : Nat) : Int) else none
theorem nmO_nat (F : List Nat) (d : Nat) : nmO F (d : Int) = if hasE F d = true then some ((nmF F d : Nat) : Int) else none := by
  unfold nmO
  rw [Int.toNat_natCast]
  by_cases h : hasE F d = true
  · rw [if_pos ⟨by omega, h⟩, if_pos h]
  · rw [if_neg (fun k => h k.2), if_neg h]
theorem nmO_nil : nmO [] = fun _ => none := by
  funext k
  unfold nmO
  rw [if_neg (fun h => by simp [hasE] at h)]
theorem nmO_add {n : Nat} {F : List Nat} (h : FOk n F) {d : Nat} (hd : d < n) (hno : hasE F d = false) : updF (updF (nmO F) (d : Int) ((2 * F.length : Nat) : Int)) ((d ^^^ 1 : Nat) : Int) ((2 * F.length + 1 : Nat) : Int) = nmO (F ++ [d]) := by
  have hno' : ¬ hasE F d = true := by rw [hno]; simp
  have hadd : fstAdd F d = F ++ [d] := by unfold fstAdd; rw [if_neg hno']
  have hok : FOk n (F ++ [d]) := by rw [← hadd]; exact h.add hd
  have hlen : F.length < (F ++ [d]).length := by simp
  have hhas : ∀ x, hasE (F ++ [d]) x = true ↔ hasE F x = true ∨ d / 2 = x / 2 := fun x => by rw [← hadd]; exact hasE_add
  funext k
  unfold updF
  try dsimp only
  by_cases e1 : k = ((d ^^^ 1 : Nat) : Int)
  · rw [if_pos e1, e1, nmO_nat, if_pos ((hhas _).2 (Or.inr (by rw [xor_one_div])))]
    have := nm_mate hok hlen
    rw [at_app_last] at this
    rw [this]
  · rw [if_neg e1]
    by_cases e2 : k = (d : Int)
    · rw [if_pos e2, e2, nmO_nat, if_pos ((hhas _).2 (Or.inr rfl))]
      have := nm_at hok hlen
      rw [at_app_last] at this
      rw [this]
    · rw [if_neg e2]
      by_cases hk : 0 ≤ k
      · obtain ⟨x, rfl⟩ : ∃ x : Nat, k = (x : Int) := ⟨k.toNat, by omega⟩
        have e3 : ¬ d / 2 = x / 2 := fun e => (half_eq e).elim (fun k => e2 (by rw [k])) fun k => e1 (by rw [k, xor_one_one])
        rw [nmO_nat, nmO_nat]
        by_cases hF : hasE F x = true
        · rw [if_pos hF, if_pos ((hhas x).2 (Or.inl hF))]
          obtain ⟨i, hi, k⟩ := nm_cases h hF
          have hi' : i < (F ++ [d]).length := by simp; omega
          have m1 := nm_at hok hi'
          have m2 := nm_mate hok hi'
          rw [at_app hi] at m1 m2
          rcases k with ⟨k1, k2⟩ | ⟨k1, k2⟩
          · rw [k2, k1, m1]
          · rw [k2, k1, m2]
        · rw [if_neg hF, if_neg (fun k => ((hhas x).1 k).elim hF e3)]
      · unfold nmO
        rw [if_neg (fun h => hk h.1), if_neg (fun h => hk h.1)]
theorem nmO_mate {F : List Nat} {d : Nat} (hno : hasE F d = false) (u : Int) : updF (nmO F) (d : Int) u ((d ^^^ 1 : Nat) : Int) = none := by
  rw [updF_other _ _ _ (by have := xor_one_ne d; omega), nmO_nat, if_neg]
  intro h
  have : hasE F d = true := by
    obtain ⟨i, hi, e⟩ := hasE_iff.1 h
    exact hasE_iff.2 ⟨i, hi, by rw [e, xor_one_div]⟩
  rw [this] at hno
  cases hno
/-- is a dart the first of another part, as far as it was looked? -/
def fB (N : List Int) (r i j : Nat) : Bool := !decide (nth N i = nth N r) && (List.range j).all fun x => !decide (nth N x = nth N i)
theorem fB_zero (N : List Int) (r i : Nat) : fB N r i 0 = !decide (nth N i = nth N r) := by simp [fB]
theorem fB_succ (N : List Int) (r i j : Nat) : fB N r i (j + 1) = (fB N r i j && !decide (nth N j = nth N i)) := by
  unfold fB
  rw [List.range_succ, List.all_append, Bool.and_assoc]
  simp
theorem fB_all (N : List Int) (r i : Nat) : fB N r i i = firstB N r i := rfl
/-- told so far -/
def outTo (n : Nat) (F : List Nat) (i : Nat) : List Int := (List.range n).map fun x => if x < i then ((nmF F x : Nat) : Int) else 0
theorem outTo_length (n : Nat) (F : List Nat) (i : Nat) : (outTo n F i).length = n := by simp [outTo]
theorem outTo_zero (n : Nat) (F : List Nat) : outTo n F 0 = List.replicate n 0 := by
  refine List.ext_getElem (by simp [outTo]) fun i h1 h2 => ?_
  simp [outTo]
theorem outTo_set {n : Nat} {F : List Nat} {i : Nat} : (outTo n F i).set i ((nmF F i : Nat) : Int) = outTo n F (i + 1) := by
  refine List.ext_getElem (by simp [outTo]) fun j h1 h2 => ?_
  rw [List.getElem_set]
  simp only [outTo, List.getElem_map, List.getElem_range]
  by_cases e : i = j
  · subst e; rw [if_pos rfl, if_pos (by omega)]
  · rw [if_neg e]
    by_cases h : j < i
    · rw [if_pos h, if_pos (by omega)]
    · rw [if_neg h, if_neg (by omega)]
theorem outTo_all (n : Nat) (F : List Nat) : outTo n F n = toI (canP n F) := by
  unfold outTo canP toI
  rw [List.map_map]
  refine List.map_congr_left fun j hj => ?_
  rw [if_pos (List.mem_range.1 hj)]
  rfl

set_option maxRecDepth 100000 in
set_option maxHeartbeats 4000000 in
theorem r11names_some (R : Reg) (w : World) (hI : Inv R w) (v : Value) (s : List Nat) (root : Nat) (lone : Int) (hv : FreeI R w v (toI s)) (hS : IsPerm s) (hn : s.length ≤ 131072) (he : s.length % 2 = 0) (hr : root < s.length) :
    Calls Try.prog 38 #[refV v root lone] w (RetOwn R w (toI (canL s root))) := by
  obtain ⟨a0, cap0, rfl, hv0⟩ := hv.open
  rw [toI_length] at hv hv0 ⊢
  have HNm := Lib.hid (fun w' (hee : Ev R w R w') => r8names_any R w' hee.inv _ s root lone (hv.ev hee) hS (by omega) he)
  have HWk := Lib.hid (fun w' (hee : Ev R w R w') r (hr : r < s.length) => rwalk_any R w' hee.inv _ s root lone (hv.ev hee) hS (by omega) he r hr)
  have hpl := partsL_length hS he
  have HLt := Lib.hid (rootsL_lt hr)
  have HWl := Lib.hid (fun r (hr : r < s.length) x (hx : x ∈ walkD s r) => (Con.per hS).cod ((mem_walkD hS he hr).1 hx))
  have e0 : canF s root = fstL [] ((rootsL s root).flatMap (walkD s)) := by
    unfold canF canD
    rw [if_neg (by omega)]
  have hnl := canF_length (canF_ok hS he hr) he (canF_all hS he hr)
  have HAl := Lib.hid (canF_all hS he hr)
  have hres : toI (canL s root) = outTo s.length (canF s root) s.length := (outTo_all _ _).symm
  rw [hres]
  obtain ⟨G, hG⟩ : ∃ G, canF s root = G := ⟨_, rfl⟩
  rw [hG] at hnl HAl e0 ⊢
  have HG := Lib.hid e0
  obtain ⟨n, hnn⟩ : ∃ n, s.length = n := ⟨_, rfl⟩
  obtain ⟨N, hN⟩ : ∃ N, partsL s = N := ⟨_, rfl⟩
  have hrt : rootsL s root = root :: restTo N root n := by unfold rootsL; rw [hN, hnn]
  rw [hrt] at HLt HG
  rw [hN] at HNm hpl
  rw [hnn] at HNm HWk hpl HLt HWl HAl hnl hn he hr hv hv0 ⊢
  have HNn := Lib.hid hnn
  have HPl := Lib.hid hpl
  have HNl := Lib.hid hnl
  have HEv := Lib.hid he
  have HRl : Hid (∀ i, (restTo N root i).length ≤ i) := Lib.hid (fun i => by
    unfold restTo
    have := List.length_filter_le (firstB N root) (List.range i)
    rwa [List.length_range] at this)
  unfold refV at HNm HWk
  unfold refV
  have he1 : Ev R w R (w.alloc (.cells #[.slice a0 n cap0, .int .i64 root, .int .i64 lone] 34)) := (Ev.refl hI).alloc _
  have hn1 : R w.heap.size = none := hI.none_of_ge (Nat.le_refl _)
  have HB1 := Lib.hid (fun w' (h : Ev R (w.alloc (.cells #[.slice a0 n cap0, .int .i64 root, .int .i64 lone] 34)) R w') => h.boxC3 (heap_alloc_new w _) hn1)
  have hmm := @run_makeMap Try.prog
  obtain ⟨wa, hwa⟩ : ∃ wa, wa = w.alloc (.cells #[.slice a0 n cap0, .int .i64 root, .int .i64 lone] 34) := ⟨_, rfl⟩
  have HWa := Lib.hid hwa
  have HEa : Hid (Ev R w R wa) := Lib.hid (by rw [hwa]; exact he1)
  have HM0 : Hid (FMap R (wa.alloc (.map #[] 0)) wa.heap.size 0 (fun _ => none) 0) := Lib.hid (FMap.made HEa.out.inv)
  have HEm := Lib.hid ((Ev.refl HEa.out.inv).alloc (.map #[] 0))
  rw [← hwa] at HB1
  obtain ⟨x0, x1, x2, _⟩ := boxC_cells (HB1.out _ HEm.out).1
  have hwz : wa.heap.size = w.heap.size + 1 := by rw [hwa]; simp
  clear hI hv hv0 hS hnn hN he1 hn1 e0 hG hpl hnl he hres hrt
  go_enter Try.func38, Try.ntmps38
  go_upto_region 2 with fail
  rw [← hwa] 
  rw [← hwz]
  clear hwa hwz
  go_wp2_with fail
  refine (HNm.out _ (HEa.out.trans HEm.out)).mono ?_
  rintro z w2 ⟨v2, rfl, he2, ho2⟩
  obtain ⟨aN, cN, rfl, _⟩ := ho2.ints.open
  rw [HPl.out] at ho2 ⊢
  obtain ⟨gN, rfl, _, _, kr, _⟩ := ho2.headAt HPl.out hr
  obtain ⟨b, hb⟩ : ∃ b, wa.heap.size = b := ⟨_, rfl⟩
  have HBw := Lib.hid (show wa.heap.size ≤ b by omega)
  rw [hb] at HM0 ⊢
  have HE2 := Lib.hid (HEm.out.trans he2)
  have HM2 := Lib.hid (HM0.out.ev he2)
  have HN2 := Lib.hid ho2
  have hbz : b < w2.heap.size := HM2.out.lt
  obtain ⟨x0, x1, x2, _⟩ := boxC_cells (HB1.out _ HE2.out).1
  have HEb := Lib.hid ((Ev.refl HE2.out.inv).alloc (.cells #[.int .i64 (root : Int)] 3))
  have hnp : ¬ (n : Int) ≤ 0 := by omega
  have hnp2 : 0 < n := by omega
  clear he2 ho2 hmm hb HM0
  go_wp2_with (at_builtin; refine wpList_app_int (R := R) (B := w2.heap.size) rfl _ _ rfl (OwnI.nil R w2.heap.size 3 (w2.alloc (.cells #[.int .i64 (root : Int)] 3))) rfl ⟨w2.heap.size, 0, none⟩ 1 (root : Int) ?a0 ?a1 ?a2 ?a3 ?a4 ?_)
  case a0 => first | rfl | simp
  case a1 => first | rfl | simp
  case a2 => simp
  case a3 => simp
  case a4 => exact fun q hq => HEb.out.inv.none_of_ge (by first | exact hq | (simp at hq ⊢; omega))
  intro v3 w3 ho3 hg3 hs3
  obtain ⟨a3, c3, rfl, _⟩ := ho3.ints.open
  have HE3 := Lib.hid (HEb.out.app (OwnI.nil R w2.heap.size 3 (w2.alloc (.cells #[.int .i64 (root : Int)] 3))) (Nat.le_refl _) hg3)
  have HO3 := Lib.hid (show OwnI R w2.heap.size 3 w3 (.slice a3 1 c3) (toI (root :: restTo N root 0)) from ho3)
  rw [show ([(root : Int)] : List Int).length = 1 from rfl]
  clear ho3 hg3 hs3 x0 x1 x2 kr HEb
  go_wp2_with fail
  obtain ⟨w3', hw3'⟩ : ∃ x, x = w3 := ⟨_, rfl⟩
  go_loopg [5, 35] n (fun g v5 v35 wr => ∃ (i : Nat) (a : Option Addr) (l c : Nat), i ≤ n ∧ n - i ≤ g ∧ v35 = .int .i64 (i : Int) ∧ v5 = .slice a l c ∧ l = (restTo N root i).length + 1 ∧ Ev R w2 R wr ∧ OwnI R w2.heap.size 3 wr (.slice a l c) (toI (root :: restTo N root i)))
  case atStart => exact ⟨0, a3, 1, c3, Nat.zero_le _, by omega, rfl, rfl, rfl, HE3.out, HO3.out⟩
  case round =>
    obtain ⟨i, a, l, c, hi, hg, rfl, rfl, hl, hev, ho⟩ := hrel
    have HE := Lib.hid hev
    have HO := Lib.hid ho
    have HL := Lib.hid hl
    clear hev ho hl
    by_cases hin : i < n
    · have hlb := HRl.out i
      have hrs := restTo_succ N root i
      rw [← fB_all] at hrs
      obtain ⟨x0, x1, x2, _⟩ := boxC_cells (HB1.out _ (HE2.out.trans HE.out)).1
      have hNn := HN2.out.ev HE.out
      obtain ⟨_, e1, _, _, ki, _⟩ := hNn.headAt HPl.out hin
      cases e1
      obtain ⟨_, e1, _, _, kr, _⟩ := hNn.headAt HPl.out hr
      cases e1
      have HNr := Lib.hid hNn
      obtain ⟨y, hy⟩ : ∃ y, nth N i = y := ⟨_, rfl⟩
      obtain ⟨y0, hy0⟩ : ∃ y, nth N root = y := ⟨_, rfl⟩
      rw [hy] at ki
      rw [hy0] at kr
      have hb0 : (y != y0) = fB N root i 0 := by rw [fB_zero, hy, hy0]; rfl
      have HY := Lib.hid hy
      obtain ⟨B0, hB0⟩ : ∃ B, fB N root i 0 = B := ⟨_, rfl⟩
      rw [hB0] at hb0
      have HB0 := Lib.hid hB0
      have HRs := Lib.hid hrs
      clear hNn hy hy0 hB0 hrs
      go_wp2_with fail
      obtain ⟨w4, hw4⟩ : ∃ w4, w4 = wr := ⟨_, rfl⟩
      subst hw4
      go_loopg [8, 9] i (fun g v8 v9 wr => ∃ (j : Nat) (Bj : Bool), j ≤ i ∧ i - j ≤ g ∧ v9 = .int .i64 (j : Int) ∧ v8 = .bool Bj ∧ Bj = fB N root i j ∧ wr = w4)
      case atStart => exact ⟨0, B0, Nat.zero_le _, by omega, rfl, rfl, HB0.out.symm, rfl⟩
      case round =>
        obtain ⟨j, Bj, hj, hg2, rfl, rfl, hBj, rfl⟩ := hrel
        have hfs := fB_succ N root i j
        rw [← hBj] at hfs
        have HBj := Lib.hid hBj
        clear hBj
        by_cases hji : j < i
        · obtain ⟨_, e1, _, _, kj, _⟩ := HNr.out.headAt HPl.out (i := j) (by omega)
          cases e1
          rw [HY.out] at hfs
          obtain ⟨yj, hyj⟩ : ∃ y, nth N j = y := ⟨_, rfl⟩
          rw [hyj] at kj hfs
          clear hyj
          cases Bj
          · have HFs := Lib.hid (show false = fB N root i (j + 1) by rw [hfs]; rfl)
            clear hfs
            go_wp2_with fail
            go_roundg (i - (j + 1))
            case measure => omega
            case rel => exact ⟨j + 1, false, by omega, by omega, by go_num, rfl, HFs.out, rfl⟩
          · obtain ⟨Bn, hBn⟩ : ∃ B, (yj != y) = B := ⟨_, rfl⟩
            have HFs := Lib.hid (show Bn = fB N root i (j + 1) by rw [hfs, ← hBn]; rfl)
            clear hfs
            go_wp2_with fail
            go_roundg (i - (j + 1))
            case measure => omega
            case rel => exact ⟨j + 1, Bn, by omega, by omega, by go_num, rfl, HFs.out, rfl⟩
        · obtain rfl : j = i := by omega
          clear hfs
          cases Bj
          · have HRn := Lib.hid (show restTo N root (j + 1) = restTo N root j by rw [HRs.out, ← HBj.out]; rfl)
            clear ki kr x0 x1 x2
            go_wp2_with fail
            go_roundg (n - (j + 1))
            case measure => omega
            case rel => exact ⟨j + 1, a, l, c, by omega, by omega, by go_num, rfl, by rw [HRn.out]; exact HL.out, HE.out, by rw [HRn.out]; exact HO.out⟩
          · have HRn := Lib.hid (show restTo N root (j + 1) = restTo N root j ++ [j] by rw [HRs.out, ← HBj.out]; rfl)
            have HEa' := Lib.hid (HE.out.alloc (.cells #[.int .i64 (j : Int)] 3))
            have HOa' := Lib.hid (HO.out.alloc (.cells #[.int .i64 (j : Int)] 3))
            have hLl : Hid ((toI (root :: restTo N root j)).length = l) := Lib.hid (by rw [toI_length, List.length_cons, HL.out])
            clear ki kr x0 x1 x2
            go_wp2_with (at_builtin; refine wpList_app_int (R := R) (B := w2.heap.size) rfl _ _ rfl HOa'.out rfl ⟨wr.heap.size, 0, none⟩ 1 (j : Int) ?a0 ?a1 ?a2 ?a3 ?a4 ?_)
            case a0 => first | rfl | simp
            case a1 => first | rfl | simp
            case a2 => have := hLl.out; have := HL.out; omega
            case a3 => have := HEa'.out.size; first | exact this | (simp at this ⊢; omega)
            case a4 => exact fun q hq => HEa'.out.inv.none_of_ge (by first | exact hq | (simp at hq ⊢; omega))
            intro v8 w8 ho8 hg8 hs8
            obtain ⟨a8, c8, rfl, _⟩ := ho8.ints.open
            have hl8 : (toI (root :: restTo N root j) ++ [(j : Int)]).length = l + 1 := by rw [List.length_append, hLl.out]; rfl
            have hx8 : toI (root :: restTo N root j) ++ [(j : Int)] = toI (root :: restTo N root (j + 1)) := by rw [HRn.out]; simp [toI]
            rw [hl8] at ho8 ⊢
            rw [hx8] at ho8
            have HE8 := Lib.hid (HEa'.out.app HOa'.out (Nat.le_refl _) hg8)
            have HO8 := Lib.hid ho8
            clear ho8 hg8 hs8 hl8 hx8
            go_wp2_with fail
            go_roundg (n - (j + 1))
            case measure => omega
            case rel => exact ⟨j + 1, a8, l + 1, c8, by omega, by omega, by go_num, rfl, by rw [HRn.out, List.length_append, List.length_singleton, HL.out], HE8.out, HO8.out⟩
    · obtain rfl : i = n := by omega
      obtain ⟨rs, hrs⟩ : ∃ rs, root :: restTo N root i = rs := ⟨_, rfl⟩
      have hlr : rs.length = l := by rw [← hrs, List.length_cons, HL.out]
      have hLb : l ≤ i + 1 := by rw [HL.out]; have := HRl.out i; omega
      rw [hrs] at HO HLt HG
      have HLr := Lib.hid hlr
      obtain ⟨n, hni⟩ : ∃ n, n = i := ⟨_, rfl⟩
      subst hni
      have HMz : Hid (FMap R wr b 0 (nmO []) 0) := Lib.hid (by rw [nmO_nil]; exact HM2.out.ev HE.out)
      have HEz := Lib.hid (HE2.out.trans HE.out)
      obtain ⟨w5, hw5⟩ : ∃ w5, w5 = wr := ⟨_, rfl⟩
      subst hw5
      clear hlr hrs HM2 HN2 HE HL hin
      go_wp2_with fail
      go_loopg [69] l (fun g v69 wr => ∃ (k : Nat) (F : List Nat), k ≤ l ∧ l - k ≤ g ∧ v69 = .int .i64 (k : Int) ∧ F = fstL [] ((rs.take k).flatMap (walkD s)) ∧ FOk n F ∧ Ev R wa R wr ∧ FMap R wr b (2 * F.length) (nmO F) (2 * F.length) ∧ OwnI R w2.heap.size 3 wr (.slice a l c) (toI rs))
      case atStart => exact ⟨0, [], Nat.zero_le _, by omega, rfl, by simp [fstL], FOk.nil n, HEz.out, HMz.out, HO.out⟩
      case round =>
        obtain ⟨k, F, hk, hg, rfl, hF, hFok, hev, hm, hro⟩ := hrel
        have HFe := Lib.hid hF
        have HFk := Lib.hid hFok
        have HE := Lib.hid hev
        have HM := Lib.hid hm
        have HRo := Lib.hid hro
        clear hF hFok hev hm hro
        by_cases hkl : k < l
        · have hkr : k < rs.length := by rw [HLr.out]; exact hkl
          obtain ⟨gR, rfl, _, _, hc, _⟩ := HRo.out.headAt (by rw [toI_length, HLr.out]) hkl
          rw [toI_nth] at hc
          have hrm := HLt.out (at' rs k) (by rw [at'_eq hkr]; exact List.getElem_mem hkr)
          have hfl := fst_flat (s := s) hkr
          rw [← HFe.out] at hfl
          obtain ⟨r, hrr⟩ : ∃ r, at' rs k = r := ⟨_, rfl⟩
          rw [hrr] at hc hrm hfl
          have HFl := Lib.hid hfl
          have HWr := Lib.hid (HWk.out _ (HEa.out.trans HE.out) r hrm)
          have HPw := Lib.hid (walkD_length s r)
          have HWx := Lib.hid (HWl.out r hrm)
          have hwg := fun j (hj : j < partC' s r) => walkD_at (s := s) (r := r) hj
          have hdg : ∀ j, j < partC' s r → nth (dartsW s (sizesL s).length r (partC' s r)) j = ((wd s (sizesL s).length r j : Nat) : Int) := fun j hj => by simp [dartsW, nth, hj]
          have hdl := dartsW_length s (sizesL s).length r (partC' s r)
          have hkl2 := kindsW_length s (sizesL s).length r (partC' s r)
          have hPb : partC' s r ≤ n := by have := tally_le (Con s r) s.length; rw [HNn.out] at this; unfold partC'; rwa [HNn.out]
          obtain ⟨P, hP⟩ : ∃ P, partC' s r = P := ⟨_, rfl⟩
          rw [hP] at hPb HWr HPw hwg hdg hdl hkl2
          obtain ⟨DL, hDL⟩ : ∃ l, dartsW s (sizesL s).length r P = l := ⟨_, rfl⟩
          obtain ⟨KL, hKL⟩ : ∃ l, kindsW s (sizesL s).length r P = l := ⟨_, rfl⟩
          rw [hDL] at HWr hdg hdl
          rw [hKL] at HWr hkl2
          have HWg := Lib.hid hwg
          have HDg := Lib.hid hdg
          have HDl := Lib.hid hdl
          have HKl := Lib.hid hkl2
          obtain ⟨x0, x1, x2, _⟩ := boxC_cells (HB1.out _ HE.out).1
          clear hrr hfl hP hDL hKL hwg hdg hdl hkl2
          go_wp2_with fail
          refine HWr.out.mono ?_
          rintro z w6 ⟨aD, aK, cD, cK, rfl, he6, hd6, _⟩
          rw [HDl.out] at hd6 ⊢
          have HE6 := Lib.hid (HE.out.trans he6)
          have HM6 := Lib.hid (HM.out.ev he6)
          have HR6 := Lib.hid (HRo.out.ev he6)
          have HD6 := Lib.hid hd6
          have hbw : b < wr.heap.size := HM.out.lt
          obtain ⟨B3, hB3⟩ : ∃ B, wr.heap.size = B := ⟨_, rfl⟩
          rw [hB3] at HD6 hbw
          have HBw3 := Lib.hid hbw
          obtain ⟨w6', hw6⟩ : ∃ w6', w6' = w6 := ⟨_, rfl⟩
          subst hw6
          clear he6 hd6 hc hB3 hbw x0 x1 x2
          go_wp2_with fail
          go_loopg [81] P (fun g v81 wr => ∃ (j : Nat) (F' : List Nat), j ≤ P ∧ P - j ≤ g ∧ v81 = .int .i64 (j : Int) ∧ F' = fstL F ((walkD s r).take j) ∧ FOk n F' ∧ Ev R wa R wr ∧ FMap R wr b (2 * F'.length) (nmO F') (2 * F'.length) ∧ OwnI R w2.heap.size 3 wr (.slice (some ⟨gR, 0, none⟩) l c) (toI rs) ∧ OwnI R B3 3 wr (.slice aD P cD) DL)
          case atStart => exact ⟨0, F, Nat.zero_le _, by omega, rfl, rfl, HFk.out, HE6.out, HM6.out, HR6.out, HD6.out⟩
          case round =>
            obtain ⟨j, F', hj, hg2, rfl, hF, hFok, hev, hm, hro, hdo⟩ := hrel
            have HFe2 := Lib.hid hF
            have HFk2 := Lib.hid hFok
            have HE7 := Lib.hid hev
            have HM7 := Lib.hid hm
            have HR7 := Lib.hid hro
            have HD7 := Lib.hid hdo
            clear hF hFok hev hm hro hdo
            by_cases hjP : j < P
            · have hjw : j < (walkD s r).length := by rw [HPw.out]; exact hjP
              obtain ⟨gD, rfl, _, _, kd, _⟩ := HD7.out.headAt HDl.out hjP
              rw [HDg.out j hjP] at kd
              have hdn := HWx.out (at' (walkD s r) j) (by rw [at'_eq hjw]; exact List.getElem_mem hjw)
              have hft := fst_take (F := F) hjw
              rw [HWg.out j hjP] at hdn hft
              obtain ⟨d, hd⟩ : ∃ d, wd s (sizesL s).length r j = d := ⟨_, rfl⟩
              rw [hd] at kd hdn hft
              rw [← HFe2.out] at hft
              have HFt := Lib.hid hft
              have hlk := HM7.out.lookOk (d : Int) (by omega)
              have hnd := nmO_nat F' d
              have hFb := HFk2.out.len_le HEv.out
              clear hd hft
              by_cases hh : hasE F' d = true
              · rw [if_pos hh] at hnd
                rw [hnd] at hlk
                have hlk' : (Instr.lookup 108 (.map (some b)) (.int .i64 (d : Int)) true).run Try.prog wr = .ok (.tuple #[.int .i64 ((nmF F' d : Nat) : Int), .bool true]) wr := hlk
                have HFn := Lib.hid (show fstL F ((walkD s r).take (j + 1)) = F' by rw [HFt.out]; unfold fstAdd; rw [if_pos hh])
                clear hlk hnd hh
                go_wp2_with fail
                go_roundg (P - (j + 1))
                case measure => omega
                case rel => exact ⟨j + 1, F', by omega, by omega, by go_num, HFn.out.symm, HFk2.out, HE7.out, HM7.out, HR7.out, HD7.out⟩
              · have hhf : hasE F' d = false := by simpa using hh
                rw [if_neg hh] at hnd
                rw [hnd] at hlk
                have hlk' : (Instr.lookup 108 (.map (some b)) (.int .i64 (d : Int)) true).run Try.prog wr = .ok (.tuple #[.int .i64 0, .bool false]) wr := hlk
                have HFn := Lib.hid (show fstL F ((walkD s r).take (j + 1)) = F' ++ [d] by rw [HFt.out]; unfold fstAdd; rw [if_neg hh])
                have HFk3 : Hid (FOk n (F' ++ [d])) := Lib.hid (by
                  have := HFk2.out.add hdn
                  unfold fstAdd at this
                  rwa [if_neg hh] at this)
                have hna := nmO_add HFk2.out hdn hhf
                obtain ⟨t, ht⟩ : ∃ t, 2 * F'.length = t := ⟨_, rfl⟩
                have hmn := nmO_mate hhf (t : Int)
                rw [ht] at hna hFb HM7
                obtain ⟨t1, ht1⟩ : ∃ x, t + 1 = x := ⟨_, rfl⟩
                rw [ht1] at hna
                have HT2 : Hid (2 * (F' ++ [d]).length = t + 1 + 1) := Lib.hid (by rw [List.length_append, List.length_singleton, ← ht]; omega)
                have hw1 : IntKind.i64.wrap ((t : Int) + 1) = (t1 : Int) := by rw [show (t : Int) + 1 = (t1 : Int) by omega]; exact IntWalk.i64_in _ (by omega)
                obtain ⟨dm, hdm⟩ : ∃ x, d ^^^ 1 = x := ⟨_, rfl⟩
                have hxl : dm < n := by rw [← hdm]; exact xor_one_lt HEv.out hdn
                rw [hdm] at hna hmn
                have HDm := Lib.hid hdm
                have HNa := Lib.hid hna
                have HMn := Lib.hid hmn
                have HNd := Lib.hid hnd
                have hlen := fun ty => HM7.out.len ty
                clear hlk hnd hh hhf hna hmn ht hdm
                go_upto_region 28 with (first | (at_mapUpdate; refine wpList_fput rfl _ _ _ rfl HM7.out (by omega) (d : Int) (t : Int) rfl rfl rfl (by omega) (by omega) ?_; intro w8 hm8 hg8) | fail)
                rw [HNd.out] at hm8
                have HM8 : Hid (FMap R w8 b (t + 1) (updF (nmO F') (d : Int) (t : Int)) (t + 1)) := Lib.hid hm8
                have HE8 := Lib.hid (HE7.out.mput HM7.out (by exact HBw.out) hg8)
                have hRn : (Value.slice (some ⟨gR, 0, none⟩) l c).ownBlock ≠ some b := fun e => by
                  have h1 := (HR7.out.lt _ e).1
                  omega
                have hDn : (Value.slice (some ⟨gD, 0, none⟩) P cD).ownBlock ≠ some b := fun e => by
                  have h1 := (HD7.out.lt _ e).1
                  have h2 := HBw3.out
                  omega
                have HR8 := Lib.hid (HR7.out.kept hg8 (Or.inr hRn))
                have HD8 := Lib.hid (HD7.out.kept hg8 (Or.inr hDn))
                clear hm8 hg8 hlk' hlen kd HM7 HE7 HR7 HD7
                go_wp2_with (first | (go_at_call 65; refine (rmate_any _ d (by omega)).mono ?_; rintro e w9 ⟨rfl, rfl⟩; rw [HDm.out]) | (at_mapUpdate; refine wpList_fput rfl _ _ _ rfl HM8.out (by omega) (dm : Int) (t1 : Int) rfl rfl rfl (by omega) (by omega) ?_; intro w9 hm9 hg9) | fail)
                rw [HMn.out, HNa.out] at hm9
                have HM9 : Hid (FMap R w9 b (t + 1 + 1) (nmO (F' ++ [d])) (t + 1 + 1)) := Lib.hid hm9
                have HE9 := Lib.hid (HE8.out.mput HM8.out (by exact HBw.out) hg9)
                have HR9 := Lib.hid (HR8.out.kept hg9 (Or.inr hRn))
                have HD9 := Lib.hid (HD8.out.kept hg9 (Or.inr hDn))
                clear hm9 hg9 hRn hDn
                go_wp2_with fail
                go_roundg (P - (j + 1))
                case measure => omega
                case rel => exact ⟨j + 1, F' ++ [d], by omega, by omega, by go_num, HFn.out.symm, HFk3.out, HE9.out, by rw [HT2.out]; exact HM9.out, HR9.out, HD9.out⟩
            · obtain rfl : j = P := by omega
              have HFz := Lib.hid (show fstL F (walkD s r) = F' by rw [HFe2.out, ← HPw.out, List.take_length])
              go_wp2_with fail
              go_roundg (l - (k + 1))
              case measure => omega
              case rel => exact ⟨k + 1, F', by omega, by omega, by go_num, by rw [HFl.out, HFz.out], HFk2.out, HE7.out, HM7.out, HR7.out⟩
        · obtain rfl : k = l := by omega
          have hFG : F = G := by rw [HFe.out, HG.out, ← HLr.out, List.take_length]
          subst hFG
          have hNl := HNl.out
          rw [hNl] at HM
          obtain ⟨x0, x1, x2, _⟩ := boxC_cells (HB1.out _ HE.out).1
          obtain ⟨i0, hi0, hz0, hz1, hz2⟩ := info_parts int_info
          clear HRo HFk
          go_wp2_with (first | (refine wpList_make_full _ rfl _ _ 32 rfl wr.heap.size 3 i0 (.int .i64 0) 1 Try.underlying32 hi0 hz0 hz1 .i64 .i64 (n : Int) (n : Int) n rfl rfl rfl rfl ?q1 ?q2 (Nat.le_refl _) ?_))
          case q1 => rw [hz2]; omega
          case q2 => unfold maxLen; omega
          intro w6 ho6 hg6
          have HE6 := Lib.hid (HE.out.grown hg6 (by simp))
          have HM6 := Lib.hid (HM.out.kept hg6 (by simp))
          have hO6 : OwnI R wr.heap.size 3 w6 (.slice (some ⟨wr.heap.size, 0, none⟩) n n) (outTo n F 0) := by rw [outTo_zero]; exact OwnI.made HE.out.inv ho6
          have hbg : b < wr.heap.size := HM.out.lt
          obtain ⟨g6, hg6e⟩ : ∃ g, wr.heap.size = g := ⟨_, rfl⟩
          have HBg := Lib.hid (show b < g6 by rw [← hg6e]; exact hbg)
          have HWg := Lib.hid (show wa.heap.size ≤ g6 by rw [← hg6e]; exact HE.out.size)
          rw [hg6e] at hO6 ⊢
          have HO6 := Lib.hid hO6
          clear ho6 hg6 hO6 hg6e hbg x0 x1 x2 hi0 hz0 hz1 hz2
          go_wp2_with fail
          go_loopg [111] n (fun g v111 wr => ∃ i : Nat, i ≤ n ∧ n - i ≤ g ∧ v111 = .int .i64 (i : Int) ∧ Ev R wa R wr ∧ FMap R wr b n (nmO F) n ∧ OwnI R g6 3 wr (.slice (some ⟨g6, 0, none⟩) n n) (outTo n F i))
          case atStart => exact ⟨0, Nat.zero_le _, by omega, rfl, HE6.out, HM6.out, HO6.out⟩
          case round =>
            obtain ⟨i, hi, hg3, rfl, hev, hm, ho⟩ := hrel
            have HE7 := Lib.hid hev
            have HM7 := Lib.hid hm
            have HO7 := Lib.hid ho
            clear hev hm ho
            by_cases hin : i < n
            · have hlk := HM7.out.look (i : Int) (by omega)
              rw [nmO_nat, if_pos (HAl.out i hin)] at hlk
              have hos := outTo_set (n := n) (F := F) (i := i)
              obtain ⟨y, hy⟩ : ∃ y, nmF F i = y := ⟨_, rfl⟩
              rw [hy] at hlk hos
              have hlk' : (Instr.lookup 108 (.map (some b)) (.int .i64 (i : Int)) false).run Try.prog wr = .ok (.int .i64 (y : Int)) wr := hlk
              obtain ⟨_, e1, hBg, hRg, kc, zc⟩ := HO7.out.headAt (outTo_length n F i) hin
              cases e1
              have HPut := Lib.hid (by have h := HO7.out.put (outTo_length n F i) i hin (y : Int); rw [hos] at h; exact h : OwnI R g6 3 (wr.setCell ⟨g6, i, none⟩ (.int .i64 (y : Int))) (.slice (some ⟨g6, 0, none⟩) n n) (outTo n F (i + 1)))
              have HEp := Lib.hid (HE7.out.setCell (p := ⟨g6, i, none⟩) HWg.out hRg (.int .i64 (y : Int)))
              have HMp := Lib.hid (HM7.out.setCell (a := ⟨g6, i, none⟩) (show b ≠ g6 by have := HBg.out; omega) (.int .i64 (y : Int)))
              clear hlk hos hy
              go_wp2_with fail
              go_roundg (n - (i + 1))
              case measure => omega
              case rel => exact ⟨i + 1, by omega, by omega, by go_num, HEp.out, HMp.out, HPut.out⟩
            · obtain rfl : i = n := by omega
              go_wp2_with fail
              go_ret
              exact ⟨_, rfl, HEa.out.trans HE7.out, HO7.out.mono (by have := HEa.out.size; have := HWg.out; omega)⟩

end Go.Proofs.Ytlbhmonpfchocaa
