/- euler.Simple, Triangulation. Conditions: the map is registered. -/
import Derived.Test.YtedocjhbmhllcaaEulD
namespace Go.Proofs.Ytedocjhbmhllcaa
open Go.RowKit
set_option linter.unusedVariables false

def simpB (s : List Nat) : Bool := decide (loopsL s = 0 ∧ dblsL s = 0)

set_option maxRecDepth 100000 in
set_option maxHeartbeats 2000000 in
theorem simple_any (R : Reg) (w : World) (hI : Inv R w) (p : Value) (s : List Nat) (root : Int) (lone : Nat) (hp : MapAt R p s root lone) :
    Calls Try.prog 52 #[p] w (RetV R w (.bool (simpB s))) := by
  have HP := Lib.hid (eloops_any R w hI p s root lone hp)
  have HD := Lib.hid (fun R' w' (he : Ev R w R' w') => edoubles_any R' w' he.inv p s root lone (he.map hp))
  obtain ⟨b, rfl, hb⟩ := hp
  clear hI hb
  obtain ⟨l, hl⟩ : ∃ l, loopsL s = l := ⟨_, rfl⟩
  obtain ⟨d, hd⟩ : ∃ l, dblsL s = l := ⟨_, rfl⟩
  have HS : Hid (simpB s = decide (l = 0 ∧ d = 0)) := Lib.hid (by unfold simpB; rw [hl, hd])
  rw [hl] at HP
  rw [hd] at HD
  clear hl hd
  by_cases h1 : l = 0
  · have g1 : ((l : Int) == 0) = true := by rw [beq_iff_eq]; omega
    by_cases h2 : d = 0
    · have g2 : ((d : Int) == 0) = true := by rw [beq_iff_eq]; omega
      have HB : Hid (simpB s = true) := Lib.hid (by rw [HS.out]; simp [h1, h2])
      clear h1 h2 HS
      go_enter Try.func52, Try.ntmps52
      go_wp2_with fail
      refine HP.out.mono ?_
      rintro e w1 ⟨rfl, R1, he⟩
      have HE := Lib.hid he
      clear he
      go_wp2_with fail
      refine (HD.out R1 w1 HE.out).mono ?_
      rintro e w2 ⟨rfl, R2, he⟩
      have HE2 := Lib.hid (HE.out.trans he)
      clear he
      go_wp2_with fail
      go_ret
      exact ⟨ret_bool HB.out.symm, R2, HE2.out⟩
    · have g2 : ((d : Int) == 0) = false := by rw [beq_eq_false_iff_ne]; omega
      have HB : Hid (simpB s = false) := Lib.hid (by rw [HS.out]; simp [h2])
      clear h1 h2 HS
      go_enter Try.func52, Try.ntmps52
      go_wp2_with fail
      refine HP.out.mono ?_
      rintro e w1 ⟨rfl, R1, he⟩
      have HE := Lib.hid he
      clear he
      go_wp2_with fail
      refine (HD.out R1 w1 HE.out).mono ?_
      rintro e w2 ⟨rfl, R2, he⟩
      have HE2 := Lib.hid (HE.out.trans he)
      clear he
      go_wp2_with fail
      go_ret
      exact ⟨ret_bool HB.out.symm, R2, HE2.out⟩
  · have g1 : ((l : Int) == 0) = false := by rw [beq_eq_false_iff_ne]; omega
    have HB : Hid (simpB s = false) := Lib.hid (by rw [HS.out]; simp [h1])
    clear h1 HS
    go_enter Try.func52, Try.ntmps52
    go_wp2_with fail
    refine HP.out.mono ?_
    rintro e w1 ⟨rfl, R1, he⟩
    have HE := Lib.hid he
    clear he
    go_wp2_with fail
    go_ret
    exact ⟨ret_bool HB.out.symm, R1, HE.out⟩

/-- all borders have three -/
def triTo (s : List Nat) : Nat → Bool
  | 0 => true
  | d + 1 => triTo s d && (at' (phiL s) (at' (phiL s) (at' (phiL s) d)) == d && !(at' (phiL s) d == d))
def triB (s : List Nat) (lone : Nat) : Bool := decide (3 ≤ (sizesL s).length + lone) && (decide (partsN s + lone = 1) && ((genusL s == 0) && (simpB s && triTo s s.length)))
theorem triTo_le {s : List Nat} {d : Nat} : ∀ {n : Nat}, d ≤ n → triTo s n = true → triTo s d = true
  | 0, hd, h => by rw [show d = 0 by omega]; rfl
  | n + 1, hd, h => by
    by_cases e : d = n + 1
    · rw [e]; exact h
    · unfold triTo at h
      exact triTo_le (by omega) (Bool.and_eq_true_iff.1 h).1

set_option maxRecDepth 100000 in
set_option maxHeartbeats 4000000 in
theorem etri_any (R : Reg) (w : World) (hI : Inv R w) (p : Value) (s : List Nat) (root : Int) (lone : Nat) (hp : MapAt R p s root lone) :
    Calls Try.prog 61 #[p] w (RetV R w (.bool (triB s lone))) := by
  obtain ⟨hs, hok⟩ := hp.ok hI
  have he2 : s.length % 2 = 0 := hok.1
  have hnot := not_run
  have H1 := Lib.hid (vertices_any R w hI p s root lone hp)
  have H2 := Lib.hid (fun R' w' (he : Ev R w R' w') => connected_any R' w' he.inv p s root lone (he.map hp))
  have H3 := Lib.hid (fun R' w' (he : Ev R w R' w') => planar_any R' w' he.inv p s root lone (he.map hp))
  have H4 := Lib.hid (fun R' w' (he : Ev R w R' w') => simple_any R' w' he.inv p s root lone (he.map hp))
  have H5 := Lib.hid (fun R' w' (he : Ev R w R' w') => darts_any R' w' he.inv p s root lone (he.map hp))
  obtain ⟨n, hn⟩ : ∃ n, s.length = n := ⟨_, rfl⟩
  have HPh := Lib.hid (fun R' w' (he : Ev R w R' w') (x : Nat) (hx : x < n) => by
    have := phi_any R' w' he.inv p s root lone (he.map hp) x
    rwa [atI_in (by rw [phiL_length]; omega)] at this)
  have HPL : Hid (∀ x, x < n → at' (phiL s) x < n) := Lib.hid (fun x hx => by
    have := (phiL_perm hs he2).lt (i := x) (by rw [phiL_length]; omega)
    rw [phiL_length] at this
    omega)
  rw [hn] at H5
  have hn2 : n ≤ 131073 := by have := hok.2.1; omega
  obtain ⟨V, hV⟩ : ∃ V : Nat, (sizesL s).length + lone = V := ⟨_, rfl⟩
  rw [show (((sizesL s).length : Int) + (lone : Int)) = (V : Int) by omega] at H1
  obtain ⟨bc, hbc⟩ : ∃ b, decide (partsN s + lone = 1) = b := ⟨_, rfl⟩
  obtain ⟨bp, hbp⟩ : ∃ b, (genusL s == 0) = b := ⟨_, rfl⟩
  obtain ⟨bs, hbs⟩ : ∃ b, simpB s = b := ⟨_, rfl⟩
  rw [hbc] at H2
  rw [hbp] at H3
  rw [hbs] at H4
  have HB : Hid (triB s lone = (decide (3 ≤ V) && (bc && (bp && (bs && triTo s n))))) := Lib.hid (by unfold triB; rw [hV, hbc, hbp, hbs, hn])
  clear hI hp hs hok he2 hV hbc hbp hbs hn
  by_cases h3 : 3 ≤ V
  · have HB : Hid (triB s lone = (bc && (bp && (bs && triTo s n)))) := Lib.hid (by rw [HB.out, decide_eq_true h3]; rfl)
    cases bc with
    | true => cases bp with
      | true => cases bs with
        | true =>
          go_enter Try.func61, Try.ntmps61
          go_wp2_with fail
          refine H1.out.mono ?_
          rintro e w1 ⟨rfl, R1, he⟩
          have HE1 := Lib.hid he
          clear he
          go_wp2_with fail
          refine (H2.out R1 w1 HE1.out).mono ?_
          rintro e w2 ⟨rfl, R2, he⟩
          have HE2 := Lib.hid (HE1.out.trans he)
          clear he
          go_wp2_with fail
          refine (H3.out R2 w2 HE2.out).mono ?_
          rintro e w3 ⟨rfl, R3, he⟩
          have HE3 := Lib.hid (HE2.out.trans he)
          clear he
          go_wp2_with fail
          refine (H4.out R3 w3 HE3.out).mono ?_
          rintro e w4 ⟨rfl, R4, he⟩
          have HE4 := Lib.hid (HE3.out.trans he)
          clear he
          go_wp2_with fail
          refine (H5.out R4 w4 HE4.out).mono ?_
          rintro e w' ⟨rfl, rfl⟩
          go_wp2_with fail
          go_loopg [25] n (fun g v25 wr => ∃ d : Nat, d ≤ n ∧ n - d ≤ g ∧ v25 = .int .i64 (d : Int) ∧ triTo s d = true ∧ wr = w4)
          case atStart => exact ⟨0, by omega, by omega, rfl, rfl, rfl⟩
          case round =>
            obtain ⟨d, hd, hg, rfl, ht, rfl⟩ := hrel
            have HT := Lib.hid ht
            clear ht
            by_cases hdn : d < n
            · have hl1 := HPL.out d hdn
              have c1 := HPh.out R4 wr HE4.out d hdn
              obtain ⟨x, hx⟩ : ∃ x, at' (phiL s) d = x := ⟨_, rfl⟩
              rw [hx] at hl1 c1
              have hl2 := HPL.out x hl1
              have c2 := HPh.out R4 wr HE4.out x hl1
              obtain ⟨y, hy⟩ : ∃ y, at' (phiL s) x = y := ⟨_, rfl⟩
              rw [hy] at hl2 c2
              have hl3 := HPL.out y hl2
              have c3 := HPh.out R4 wr HE4.out y hl2
              obtain ⟨z, hz⟩ : ∃ z, at' (phiL s) y = z := ⟨_, rfl⟩
              rw [hz] at c3
              have HTS : Hid (triTo s (d + 1) = (z == d && !(x == d))) := Lib.hid (by
                unfold triTo
                rw [HT.out, hx, hy, hz]
                rfl)
              have HF : Hid (triTo s (d + 1) = false → triTo s n = false) := Lib.hid (fun h => by
                cases h' : triTo s n with
                | false => rfl
                | true => rw [triTo_le (by omega) h'] at h; cases h)
              have C1 := Lib.hid c1
              have C2 := Lib.hid c2
              have C3 := Lib.hid c3
              clear c1 c2 c3 hx hy hz hl1 hl2 hl3
              by_cases hz : z = d
              · have g1 : ((z : Int) != (d : Int)) = false := by rw [bne_eq_false_iff_eq]; omega
                by_cases hx : x = d
                · have g2 : ((x : Int) == (d : Int)) = true := by rw [beq_iff_eq]; omega
                  have HBf : Hid (triB s lone = false) := Lib.hid (by rw [HB.out, HF.out (by rw [HTS.out]; simp [hx])]; rfl)
                  clear hz hx HTS HF
                  go_wp2_with fail
                  refine C1.out.mono ?_
                  rintro e w' ⟨rfl, rfl⟩
                  go_wp2_with fail
                  refine C2.out.mono ?_
                  rintro e w' ⟨rfl, rfl⟩
                  go_wp2_with fail
                  refine C3.out.mono ?_
                  rintro e w' ⟨rfl, rfl⟩
                  go_wp2_with fail
                  refine C1.out.mono ?_
                  rintro e w' ⟨rfl, rfl⟩
                  go_wp2_with fail
                  go_ret
                  exact ⟨ret_bool HBf.out.symm, R4, HE4.out⟩
                · have g2 : ((x : Int) == (d : Int)) = false := by rw [beq_eq_false_iff_ne]; omega
                  have HT1 : Hid (triTo s (d + 1) = true) := Lib.hid (by rw [HTS.out]; simp [hz, hx])
                  clear hz hx HTS HF
                  go_wp2_with fail
                  refine C1.out.mono ?_
                  rintro e w' ⟨rfl, rfl⟩
                  go_wp2_with fail
                  refine C2.out.mono ?_
                  rintro e w' ⟨rfl, rfl⟩
                  go_wp2_with fail
                  refine C3.out.mono ?_
                  rintro e w' ⟨rfl, rfl⟩
                  go_wp2_with fail
                  refine C1.out.mono ?_
                  rintro e w' ⟨rfl, rfl⟩
                  go_wp2_with fail
                  go_roundg (n - (d + 1))
                  case measure => omega
                  case rel => exact ⟨d + 1, by omega, by omega, by go_num, HT1.out, rfl⟩
              · have g1 : ((z : Int) != (d : Int)) = true := by rw [bne_iff_ne]; omega
                have HBf : Hid (triB s lone = false) := Lib.hid (by rw [HB.out, HF.out (by rw [HTS.out]; simp [hz])]; rfl)
                clear hz HTS HF
                go_wp2_with fail
                refine C1.out.mono ?_
                rintro e w' ⟨rfl, rfl⟩
                go_wp2_with fail
                refine C2.out.mono ?_
                rintro e w' ⟨rfl, rfl⟩
                go_wp2_with fail
                refine C3.out.mono ?_
                rintro e w' ⟨rfl, rfl⟩
                go_wp2_with fail
                go_ret
                exact ⟨ret_bool HBf.out.symm, R4, HE4.out⟩
            · obtain rfl : d = n := by omega
              have HBt : Hid (triB s lone = true) := Lib.hid (by rw [HB.out, HT.out]; rfl)
              go_wp2_with fail
              go_ret
              exact ⟨ret_bool HBt.out.symm, R4, HE4.out⟩
        | false =>
          have HBf : Hid (triB s lone = false) := Lib.hid (by rw [HB.out]; simp)
          go_enter Try.func61, Try.ntmps61
          go_wp2_with fail
          refine H1.out.mono ?_
          rintro e w1 ⟨rfl, R1, he⟩
          have HE1 := Lib.hid he
          clear he
          go_wp2_with fail
          refine (H2.out R1 w1 HE1.out).mono ?_
          rintro e w2 ⟨rfl, R2, he⟩
          have HE2 := Lib.hid (HE1.out.trans he)
          clear he
          go_wp2_with fail
          refine (H3.out R2 w2 HE2.out).mono ?_
          rintro e w3 ⟨rfl, R3, he⟩
          have HE3 := Lib.hid (HE2.out.trans he)
          clear he
          go_wp2_with fail
          refine (H4.out R3 w3 HE3.out).mono ?_
          rintro e w4 ⟨rfl, R4, he⟩
          have HE4 := Lib.hid (HE3.out.trans he)
          clear he
          go_wp2_with fail
          go_ret
          exact ⟨ret_bool HBf.out.symm, R4, HE4.out⟩
      | false =>
        have HBf : Hid (triB s lone = false) := Lib.hid (by rw [HB.out]; simp)
        go_enter Try.func61, Try.ntmps61
        go_wp2_with fail
        refine H1.out.mono ?_
        rintro e w1 ⟨rfl, R1, he⟩
        have HE1 := Lib.hid he
        clear he
        go_wp2_with fail
        refine (H2.out R1 w1 HE1.out).mono ?_
        rintro e w2 ⟨rfl, R2, he⟩
        have HE2 := Lib.hid (HE1.out.trans he)
        clear he
        go_wp2_with fail
        refine (H3.out R2 w2 HE2.out).mono ?_
        rintro e w3 ⟨rfl, R3, he⟩
        have HE3 := Lib.hid (HE2.out.trans he)
        clear he
        go_wp2_with fail
        go_ret
        exact ⟨ret_bool HBf.out.symm, R3, HE3.out⟩
    | false =>
      have HBf : Hid (triB s lone = false) := Lib.hid (by rw [HB.out]; simp)
      go_enter Try.func61, Try.ntmps61
      go_wp2_with fail
      refine H1.out.mono ?_
      rintro e w1 ⟨rfl, R1, he⟩
      have HE1 := Lib.hid he
      clear he
      go_wp2_with fail
      refine (H2.out R1 w1 HE1.out).mono ?_
      rintro e w2 ⟨rfl, R2, he⟩
      have HE2 := Lib.hid (HE1.out.trans he)
      clear he
      go_wp2_with fail
      go_ret
      exact ⟨ret_bool HBf.out.symm, R2, HE2.out⟩
  · have HB : Hid (triB s lone = false) := Lib.hid (by rw [HB.out, decide_eq_false h3]; rfl)
    have HBf : Hid (triB s lone = false) := Lib.hid (by rw [HB.out])
    go_enter Try.func61, Try.ntmps61
    go_wp2_with fail
    refine H1.out.mono ?_
    rintro e w1 ⟨rfl, R1, he⟩
    have HE1 := Lib.hid he
    clear he
    go_wp2_with fail
    go_ret
    exact ⟨ret_bool HBf.out.symm, R1, HE1.out⟩

end Go.Proofs.Ytedocjhbmhllcaa
