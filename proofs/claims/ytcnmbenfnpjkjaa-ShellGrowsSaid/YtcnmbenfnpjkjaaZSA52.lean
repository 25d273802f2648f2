/- slices.Min at []int. Conditions: the list lies in memory, and has one element at least. -/
import Derived.Test.YtcnmbenfnpjkjaaZSA03
import Derived.Test.YtcnmbenfnpjkjaaZSA20
namespace Go.Proofs.Ytcnmbenfnpjkjaa
open Go.RowKit
set_option linter.unusedVariables false
set_option maxRecDepth 100000 in
set_option maxHeartbeats 1000000 in
theorem smin_any (w : World) (a : Option Addr) (n cap : Nat) (xs : List Int) (hv : Ints w (.slice a n cap) xs) (h1 : 1 ≤ n) (hn : n ≤ 8388608) :
    Calls Try.prog 14 #[.slice a n cap] w fun e w' => w' = w ∧ ∃ m : Int, e = .returned (.int .i64 m) ∧ (∃ i, i < n ∧ nth xs i = m) ∧ ∀ i, i < n → m ≤ nth xs i := by
  have HL := Lib.hid hv.length_eq
  have HV := Lib.hid hv
  obtain ⟨b, off, rfl, hc0⟩ := hv.cell (i := 0) (by have := HL.out; omega)
  rw [Nat.add_zero] at hc0
  obtain ⟨y0, hy0⟩ : ∃ y, nth xs 0 = y := ⟨_, rfl⟩
  rw [hy0] at hc0
  have HY0 := Lib.hid hy0
  have hn1 : decide ((n : Int) < 1) = false := decide_eq_false (by omega)
  have hn2 : ¬ n < 1 := by omega
  clear hv hy0
  go_enter Try.func14, Try.ntmps14
  go_wp2_with fail
  go_loopg [3, 4] n (fun g v3 v4 wr => ∃ (i : Nat) (m : Int), 1 ≤ i ∧ i ≤ n ∧ n - i ≤ g ∧ v3 = .int .i64 m ∧ v4 = .int .i64 (i : Int) ∧ wr = w ∧ (∃ j, j < n ∧ nth xs j = m) ∧ ∀ j, j < i → m ≤ nth xs j)
  case atStart => exact ⟨1, y0, by omega, by omega, by omega, rfl, rfl, rfl, ⟨0, by omega, HY0.out⟩, fun j hj => by
    obtain rfl : j = 0 := by omega
    rw [HY0.out]; exact Int.le_refl _⟩
  case round =>
    obtain ⟨i, m, hi1, hi, hg, rfl, rfl, rfl, hex, hall⟩ := hrel
    have HEx := Lib.hid hex
    have HA := Lib.hid hall
    clear hex hall
    by_cases hil : i < n
    · obtain ⟨b', off', e, hc⟩ := HV.out.cell (i := i) (by have := HL.out; omega)
      cases e
      obtain ⟨x, hx⟩ : ∃ x, nth xs i = x := ⟨_, rfl⟩
      rw [hx] at hc
      have HX := Lib.hid hx
      have hex : ∃ j, j < n ∧ nth xs j = x := ⟨i, hil, hx⟩
      have HEy := Lib.hid hex
      clear hx hex
      rcases Int.lt_or_le x m with hq | hq
      · have hq2 : ¬ (m ≤ x) := by omega
        have hq3 : ¬ (m < x) := by omega
        go_wp2_with fail
        go_roundg (n - (i + 1))
        case measure => omega
        case rel => exact ⟨i + 1, x, by omega, by omega, by omega, rfl, by go_num, rfl, HEy.out, fun j hj => by
          by_cases e : j = i
          · subst e; rw [HX.out]; omega
          · have := HA.out j (by omega); omega⟩
      · have hq2 : ¬ (x < m) := by omega
        go_wp2_with fail
        go_roundg (n - (i + 1))
        case measure => omega
        case rel => exact ⟨i + 1, m, by omega, by omega, by omega, rfl, by go_num, rfl, HEx.out, fun j hj => by
          by_cases e : j = i
          · subst e; rw [HX.out]; omega
          · have := HA.out j (by omega); omega⟩
    · obtain rfl : n = i := by omega
      go_wp2_with fail
      go_ret
      exact ⟨rfl, m, rfl, HEx.out, HA.out⟩
end Go.Proofs.Ytcnmbenfnpjkjaa
