/- parquetrylaw08.EulerNil, the walk: it answers true. Conditions: none. -/
import Derived.Test.YtedocjhbmhllcaaLaw8B
import Derived.Test.YtedocjhbmhllcaaArgs
namespace Go.Proofs.Ytedocjhbmhllcaa
open Go.RowKit
set_option linter.unusedVariables false

theorem partsN_nil : partsN [] = 0 := rfl
theorem genusL_nil : (genusL [] == 0) = true := rfl
theorem simpB_nil : simpB [] = true := by decide
theorem triB_nil (lone : Nat) : triB [] lone = false := by
  unfold triB
  rw [partsN_nil, show (sizesL []).length = 0 from rfl]
  by_cases h : 0 + lone = 1
  · rw [decide_eq_false (by omega)]; rfl
  · rw [decide_eq_false h]; simp

set_option maxRecDepth 100000 in
set_option maxHeartbeats 4000000 in
theorem eulerNil_walk (w : World) (ln : Nat) (hl : ln ≤ 255) : Calls Try.prog 12 #[.int .u8 (ln : Int)] w (RetTrue noReg w) := by
  have HA := Lib.hid (awake8_any noReg w (Inv.noReg w))
  have hnot := not_run
  have hok : MapOk [] (-1) (ln : Int) := by unfold MapOk; simp; omega
  have HNew := Lib.hid (fun R w (hI : Inv R w) => new_yes R w hI (.slice none 0 0) [] ⟨Ints.nil w, Or.inl rfl⟩ (-1) (ln : Int) ⟨by decide, by decide⟩ hok)
  obtain ⟨bc, hbc⟩ : ∃ b, decide (ln = 1) = b := ⟨_, rfl⟩
  have hb1 : (bc == ((ln : Int) == 1)) = true := by
    rw [← hbc]
    by_cases h : ln = 1
    · subst h; rfl
    · rw [decide_eq_false h, beq_eq_false_iff_ne.2 (show (ln : Int) ≠ 1 by omega)]; rfl
  have K1 := Lib.hid (fun R w (hI : Inv R w) p (hp : MapAt R p [] (-1) (ln : Int)) => eparts_any R w hI p [] (-1) ln hp)
  have K2 := Lib.hid (fun R w (hI : Inv R w) p (hp : MapAt R p [] (-1) (ln : Int)) => by have := planar_any R w hI p [] (-1) ln hp; rwa [genusL_nil] at this)
  have K3 := Lib.hid (fun R w (hI : Inv R w) p (hp : MapAt R p [] (-1) (ln : Int)) => by have := connected_any R w hI p [] (-1) ln hp; rwa [partsN_nil, Nat.zero_add, hbc] at this)
  have K4 := Lib.hid (fun R w (hI : Inv R w) p (hp : MapAt R p [] (-1) (ln : Int)) => by have := simple_any R w hI p [] (-1) ln hp; rwa [simpB_nil] at this)
  have K5 := Lib.hid (fun R w (hI : Inv R w) p (hp : MapAt R p [] (-1) (ln : Int)) => by have := etri_any R w hI p [] (-1) ln hp; rwa [triB_nil] at this)
  clear hok hbc
  go_enter Try.func12, Try.ntmps12
  go_wp2_with fail
  refine HA.out.mono ?_
  rintro e w1 ⟨rfl, R1, he1⟩
  have HE1 := Lib.hid he1
  clear he1
  go_wp2_with fail
  refine (HNew.out R1 w1 HE1.out.inv).mono ?_
  rintro e w2 ⟨p, R2, rfl, he2, hp2⟩
  have HE2 := Lib.hid (HE1.out.trans he2)
  have HP2 := Lib.hid hp2
  clear he2 hp2
  go_wp2_with fail
  refine (parts_nil R2 w2 HE2.out.inv).mono ?_
  rintro e w3 ⟨a3, c3, rfl, he⟩
  have HE3 := Lib.hid (HE2.out.trans he)
  have HP3 := Lib.hid (he.map HP2.out)
  clear he
  go_wp2_with fail
  refine (names_nil R2 w3 HE3.out.inv).mono ?_
  rintro e w4 ⟨a4, c4, rfl, he⟩
  have HE4 := Lib.hid (HE3.out.trans he)
  have HP4 := Lib.hid (he.map HP3.out)
  clear he
  go_wp2_with fail
  refine (genus_nil R2 w4 HE4.out.inv).mono ?_
  rintro e w5 ⟨rfl, he⟩
  have HE5 := Lib.hid (HE4.out.trans he)
  have HP5 := Lib.hid (he.map HP4.out)
  clear he
  go_wp2_with fail
  refine (loops_nil R2 w5 HE5.out.inv).mono ?_
  rintro e w6 ⟨rfl, he⟩
  have HE6 := Lib.hid (HE5.out.trans he)
  have HP6 := Lib.hid (he.map HP5.out)
  clear he
  go_wp2_with fail
  refine (doubles_nil R2 w6 HE6.out.inv).mono ?_
  rintro e w7 ⟨rfl, he⟩
  have HE7 := Lib.hid (HE6.out.trans he)
  have HP7 := Lib.hid (he.map HP6.out)
  clear he
  go_wp2_with fail
  refine (planar_nil w7).mono ?_
  rintro e w' ⟨rfl, rfl⟩
  go_wp2_with fail
  refine (connected_nil R2 w7 HE7.out.inv).mono ?_
  rintro e w8 ⟨rfl, he⟩
  have HE8 := Lib.hid (HE7.out.trans he)
  have HP8 := Lib.hid (he.map HP7.out)
  clear he
  go_wp2_with fail
  refine (simple_nil w8).mono ?_
  rintro e w' ⟨rfl, rfl⟩
  go_wp2_with fail
  refine (tri_nil w8).mono ?_
  rintro e w' ⟨rfl, rfl⟩
  go_wp2_with fail
  refine (K1.out R2 w8 HE8.out.inv p HP8.out).mono ?_
  rintro e w9 ⟨v9, R9, rfl, he, a9, c9, rfl, _⟩
  rw [partsN_nil, Nat.zero_add]
  have HE9 := Lib.hid (HE8.out.trans he)
  have HP9 := Lib.hid (he.map HP8.out)
  clear he
  go_wp2_with fail
  refine (K2.out R9 w9 HE9.out.inv p HP9.out).mono ?_
  rintro e w10 ⟨rfl, R10, he⟩
  have HE10 := Lib.hid (HE9.out.trans he)
  have HP10 := Lib.hid (he.map HP9.out)
  clear he
  go_wp2_with fail
  refine (K3.out R10 w10 HE10.out.inv p HP10.out).mono ?_
  rintro e w11 ⟨rfl, R11, he⟩
  have HE11 := Lib.hid (HE10.out.trans he)
  have HP11 := Lib.hid (he.map HP10.out)
  clear he
  go_wp2_with fail
  refine (K4.out R11 w11 HE11.out.inv p HP11.out).mono ?_
  rintro e w12 ⟨rfl, R12, he⟩
  have HE12 := Lib.hid (HE11.out.trans he)
  have HP12 := Lib.hid (he.map HP11.out)
  clear he
  go_wp2_with fail
  refine (K5.out R12 w12 HE12.out.inv p HP12.out).mono ?_
  rintro e w13 ⟨rfl, R13, he⟩
  have HE13 := Lib.hid (HE12.out.trans he)
  clear he
  go_wp2_with fail
  go_ret
  exact ⟨rfl, R13, HE13.out⟩

end Go.Proofs.Ytedocjhbmhllcaa
