/- the references Is and Err. Conditions: the list lies in memory. -/
import Derived.Test.YtedocjhbmhllcaaRefB
import Derived.Test.YtedocjhbmhllcaaMathE
import Derived.Test.YtedocjhbmhllcaaDartE
namespace Go.Proofs.Ytedocjhbmhllcaa
open Go.RowKit
set_option linter.unusedVariables false

open Classical in
noncomputable def isB (xs : List Int) : Bool := decide (PermI xs)
theorem isB_true {xs : List Int} (h : PermI xs) : isB xs = true := by simp [isB, h]
theorem isB_false {xs : List Int} (h : ¬ PermI xs) : isB xs = false := by simp [isB, h]

set_option maxHeartbeats 1000000 in
theorem ris_any (w : World) (v : Value) (xs : List Int) (hv : Ints w v xs) (hn : xs.length ≤ 4194304) :
    Calls Try.prog 69 #[v] w fun e w' => e = .returned (.bool (isB xs)) ∧ w = w' := by
  obtain ⟨a, cap, rfl, hv⟩ := hv.open
  obtain ⟨n, hl⟩ : ∃ n, xs.length = n := ⟨_, rfl⟩
  have HL := Lib.hid hl
  rw [hl] at hv hn ⊢
  have HV := Lib.hid hv
  clear hl hv
  go_enter Try.func69, Try.ntmps69
  go_wp2_with fail
  go_loopg [9] n (fun g v9 wr => ∃ k : Nat, k ≤ n ∧ n - k ≤ g ∧ v9 = .int .i64 (k : Int) ∧ wr = w ∧ ∀ i, i < k → occ xs (i : Nat) n = 1)
  case atStart => exact ⟨0, Nat.zero_le _, by omega, rfl, rfl, fun i hi => by omega⟩
  case round =>
    obtain ⟨k, hk, hg, rfl, rfl, hoc⟩ := hrel
    have HOC := Lib.hid hoc
    clear hoc
    by_cases hkn : k < n
    · go_wp2_with fail
      obtain ⟨wo, hwo⟩ : ∃ wo : World, wo = wr := ⟨_, rfl⟩
      subst hwo
      go_loopg [4, 14] n (fun g v4 v14 wq => ∃ j : Nat, j ≤ n ∧ n - j ≤ g ∧ v14 = .int .i64 (j : Int) ∧ v4 = .int .i64 ((occ xs (k : Int) j : Nat) : Int) ∧ wq = wo)
      case atStart => exact ⟨0, Nat.zero_le _, by omega, rfl, rfl, rfl⟩
      case round =>
        obtain ⟨j, hj, hg', rfl, rfl, rfl⟩ := hrel
        have hle := occ_le xs k j
        by_cases hjn : j < n
        · obtain ⟨b, off, rfl, hc⟩ := HV.out.cell (i := j) (by rw [HL.out]; exact hjn)
          obtain ⟨x, hx⟩ : ∃ x, nth xs j = x := ⟨_, rfl⟩
          have hsuc : occ xs (k : Int) (j + 1) = occ xs (k : Int) j + (if x = (k : Int) then 1 else 0) := by rw [← hx]; rfl
          obtain ⟨q, hq⟩ : ∃ q, occ xs (k : Int) j = q := ⟨_, rfl⟩
          rw [hq] at hsuc hle ⊢
          rw [hx] at hc
          have HSU := Lib.hid hsuc
          clear hsuc hq hx
          by_cases hxk : x = (k : Int)
          · have hxk' : (x == (k : Int)) = true := by rw [beq_iff_eq]; exact hxk
            have HXK := Lib.hid hxk
            clear hxk
            go_wp2_with fail
            go_roundg (n - (j + 1))
            case measure => omega
            case rel => exact ⟨j + 1, by omega, by omega, by go_num, by rw [HSU.out, if_pos HXK.out]; go_num, rfl⟩
          · have hxk' : (x == (k : Int)) = false := by rw [beq_eq_false_iff_ne]; exact hxk
            have HXK := Lib.hid hxk
            clear hxk
            go_wp2_with fail
            go_roundg (n - (j + 1))
            case measure => omega
            case rel => exact ⟨j + 1, by omega, by omega, by go_num, by rw [HSU.out, if_neg HXK.out]; rfl, rfl⟩
        · obtain rfl : j = n := by omega
          by_cases h1 : occ xs (k : Int) j = 1
          · rw [h1]
            have H1 := Lib.hid h1
            clear h1 hle
            go_wp2_with fail
            go_roundg (j - (k + 1))
            case measure => omega
            case rel => exact ⟨k + 1, by omega, by omega, by go_num, rfl, fun i hi => by
              by_cases e : i = k
              · subst e; exact H1.out
              · exact HOC.out i (by omega)⟩
          · have H1 := Lib.hid h1
            have h1' : (((occ xs (k : Int) j : Nat) : Int) != 1) = true := by rw [bne_iff_ne]; omega
            clear h1
            go_wp2_with fail
            go_ret
            refine ⟨ret_bool (isB_false fun hp => H1.out ?_).symm, rfl⟩
            have := hp.occ (i := k) (by rw [HL.out]; exact hkn)
            rw [HL.out] at this
            exact this
    · obtain rfl : k = n := by omega
      go_wp2_with fail
      go_ret
      refine ⟨ret_bool (isB_true (PermI.of_occ fun i hi => ?_)).symm, rfl⟩
      rw [HL.out] at hi ⊢
      exact HOC.out i hi

theorem not_run' (x : Bool) (w : World) : (Op.unary .not (.bool x)).run Try.prog w = .ok (.bool (!x)) w := rfl

set_option maxRecDepth 100000 in
set_option maxHeartbeats 2000000 in
theorem rerr_any (w : World) (v : Value) (xs : List Int) (hv : Ints w v xs) (hn : xs.length ≤ 4194304) (root lone : Int) :
    Calls Try.prog 29 #[v, .int .i64 root, .int .i64 lone] w fun e w' => e = .returned (.int .i64 (newErr xs root lone)) ∧ w = w' := by
  have HIS := Lib.hid (ris_any w v xs hv hn)
  have hnot := not_run'
  obtain ⟨a, cap, rfl, _⟩ := hv.open
  obtain ⟨n, hl⟩ : ∃ n, xs.length = n := ⟨_, rfl⟩
  have HL := Lib.hid hl
  rw [hl] at HIS hn ⊢
  clear hl hv
  by_cases hp : PermI xs
  · rw [isB_true hp] at HIS
    by_cases hodd : n % 2 = 1
    · have ho : ((n : Int) % 2 == 1) = true := by rw [beq_iff_eq]; omega
      have HE := Lib.hid (show newErr xs root lone = 4 by unfold newErr; rw [if_pos (Or.inr (by rw [HL.out]; exact hodd))])
      clear hp
      go_enter Try.func29, Try.ntmps29
      go_wp2_with (go_at_call 69; refine HIS.out.mono ?_; rintro e w' ⟨rfl, rfl⟩)
      go_ret
      exact ⟨ret_int HE.out.symm, rfl⟩
    · have ho : ((n : Int) % 2 == 1) = false := by rw [beq_eq_false_iff_ne]; omega
      have hen : n % 2 = 0 := by omega
      have h4 : newErr xs root lone = if (n = 0 ∧ root ≠ -1) ∨ (0 < n ∧ (root < 0 ∨ (n : Int) ≤ root)) ∨ lone < 0 then 5 else if 65536 < n / 2 ∨ 65536 < lone then 6 else 0 := by
        unfold newErr
        rw [if_neg (fun h => h.elim (fun h => h hp) (fun h => by rw [HL.out] at h; omega)), HL.out]
      have H4 := Lib.hid h4
      clear h4 hp hodd
      by_cases hl0 : lone < 0
      · have HE := Lib.hid (show newErr xs root lone = 5 by rw [H4.out, if_pos (Or.inr (Or.inr hl0))])
        go_enter Try.func29, Try.ntmps29
        go_wp2_with (go_at_call 69; refine HIS.out.mono ?_; rintro e w' ⟨rfl, rfl⟩)
        go_ret
        exact ⟨ret_int HE.out.symm, rfl⟩
      · by_cases hbad : (n = 0 ∧ root ≠ -1) ∨ (0 < n ∧ (root < 0 ∨ (n : Int) ≤ root))
        · have HE := Lib.hid (show newErr xs root lone = 5 by rw [H4.out, if_pos (hbad.elim Or.inl (fun h => Or.inr (Or.inl h)))])
          have hg : ∃ z1 z2 z3 z4 z5 : Bool, ((n : Int) == 0) = z1 ∧ (root != -1) = z2 ∧ decide (0 < n) = z3 ∧ decide (root < 0) = z4 ∧ decide ((n : Int) ≤ root) = z5 ∧
              ((z1 = true ∧ z2 = true) ∨ (z1 = false ∧ z3 = true ∧ z4 = true ∧ root < 0) ∨ (z1 = false ∧ z3 = true ∧ z4 = false ∧ 0 ≤ root ∧ z5 = true)) := by
            refine ⟨_, _, _, _, _, rfl, rfl, rfl, rfl, rfl, ?_⟩
            rcases hbad with ⟨h1, h2⟩ | ⟨h1, h2⟩
            · left; subst h1; exact ⟨rfl, by rw [bne_iff_ne]; exact h2⟩
            · by_cases h3 : root < 0
              · right; left; exact ⟨by rw [beq_eq_false_iff_ne]; omega, by simp; omega, by simp; omega, h3⟩
              · right; right; exact ⟨by rw [beq_eq_false_iff_ne]; omega, by simp; omega, by simp; omega, by omega, by simp; omega⟩
          obtain ⟨z1, z2, z3, z4, z5, g1, g2, g3, g4, g5, gz⟩ := hg
          clear hbad
          rcases gz with ⟨rfl, rfl⟩ | ⟨rfl, rfl, rfl, gr⟩ | ⟨rfl, rfl, rfl, gr, rfl⟩
          all_goals
            go_enter Try.func29, Try.ntmps29
            go_wp2_with (go_at_call 69; refine HIS.out.mono ?_; rintro e w' ⟨rfl, rfl⟩)
            go_ret
            exact ⟨ret_int HE.out.symm, rfl⟩
        · have hroot : (n = 0 ∧ root = -1) ∨ (0 < n ∧ 0 ≤ root ∧ root < n) := by omega
          have hg : ∃ z1 z2 z3 z4 : Bool, ((n : Int) == 0) = z1 ∧ (root != -1) = z2 ∧ decide (0 < n) = z3 ∧ decide ((n : Int) ≤ root) = z4 ∧ ((z1 = true ∧ z2 = false ∧ z3 = false) ∨ (z1 = false ∧ z3 = true ∧ z4 = false ∧ 0 ≤ root)) := by
            refine ⟨_, _, _, _, rfl, rfl, rfl, rfl, ?_⟩
            rcases hroot with ⟨h1, h2⟩ | ⟨h1, h2, h3⟩
            · left; subst h1; subst h2; exact ⟨rfl, rfl, rfl⟩
            · right; refine ⟨by rw [beq_eq_false_iff_ne]; omega, by simp; omega, by simp; omega, h2⟩
          have H6 := Lib.hid (show newErr xs root lone = if 65536 < n / 2 ∨ 65536 < lone then 6 else 0 by rw [H4.out, if_neg (by omega)])
          obtain ⟨z1, z2, z3, z4, g1, g2, g3, g4, gz⟩ := hg
          clear hbad hroot
          by_cases hll : 65536 < lone
          · have HE := Lib.hid (show newErr xs root lone = 6 by rw [H6.out, if_pos (Or.inr hll)])
            rcases gz with ⟨rfl, rfl, rfl⟩ | ⟨rfl, rfl, rfl, gr⟩
            all_goals
              go_enter Try.func29, Try.ntmps29
              go_wp2_with (go_at_call 69; refine HIS.out.mono ?_; rintro e w' ⟨rfl, rfl⟩)
              go_ret
              exact ⟨ret_int HE.out.symm, rfl⟩
          · by_cases hnl : 131072 < n
            · have HE := Lib.hid (show newErr xs root lone = 6 by rw [H6.out, if_pos (Or.inl (by omega))])
              have hnl' : decide (131072 < n) = true := by simp; omega
              rcases gz with ⟨rfl, rfl, rfl⟩ | ⟨rfl, rfl, rfl, gr⟩
              all_goals
                go_enter Try.func29, Try.ntmps29
                go_wp2_with (go_at_call 69; refine HIS.out.mono ?_; rintro e w' ⟨rfl, rfl⟩)
                go_ret
                exact ⟨ret_int HE.out.symm, rfl⟩
            · have HE := Lib.hid (show newErr xs root lone = 0 by rw [H6.out, if_neg (by omega)])
              have hnl' : decide (131072 < n) = false := by simp; omega
              rcases gz with ⟨rfl, rfl, rfl⟩ | ⟨rfl, rfl, rfl, gr⟩
              all_goals
                go_enter Try.func29, Try.ntmps29
                go_wp2_with (go_at_call 69; refine HIS.out.mono ?_; rintro e w' ⟨rfl, rfl⟩)
                go_ret
                exact ⟨ret_int HE.out.symm, rfl⟩
  · rw [isB_false hp] at HIS
    have HE := Lib.hid (show newErr xs root lone = 4 by unfold newErr; rw [if_pos (Or.inl hp)])
    clear hp
    go_enter Try.func29, Try.ntmps29
    go_wp2_with (go_at_call 69; refine HIS.out.mono ?_; rintro e w' ⟨rfl, rfl⟩)
    go_ret
    exact ⟨ret_int HE.out.symm, rfl⟩

end Go.Proofs.Ytedocjhbmhllcaa
