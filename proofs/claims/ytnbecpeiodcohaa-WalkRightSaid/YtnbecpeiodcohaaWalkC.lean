/- Package walk at no map and no dart; package mixed: New, Add, Len; slices.IndexFunc, ContainsFunc, DeleteFunc as they are used. Conditions: what is read lies in memory. -/
import Derived.Test.YtnbecpeiodcohaaWalkB
namespace Go.Proofs.Ytnbecpeiodcohaa
open Go.RowKit
set_option linter.unusedVariables false

set_option maxRecDepth 100000 in
set_option maxHeartbeats 1000000 in
theorem of_nil (w : World) (root : Int) : Calls Try.prog 18 #[.pointer none, .int .i64 root] w fun e w' => e = .returned (.tuple #[nilS, .int .i64 2]) ∧ w' = w := by
  go_enter Try.func18, Try.ntmps18
  go_wp2_with fail
  go_ret2
  exact ⟨rfl, rfl⟩

set_option maxRecDepth 100000 in
set_option maxHeartbeats 1000000 in
theorem of_out (R : Reg) (w : World) (hI : Inv R w) (p : Value) (s : List Nat) (rt : Int) (lone : Int) (hp : MapAt R p s rt lone) (root : Int) (hr : root < 0 ∨ (s.length : Int) ≤ root) :
    Calls Try.prog 18 #[p, .int .i64 root] w fun e w' => e = .returned (.tuple #[nilS, .int .i64 5]) ∧ w' = w := by
  have hDt := darts_any R w hI p s rt lone hp
  have HDt := Lib.hid hDt
  obtain ⟨bp, rfl, hbp⟩ := hp
  clear hI hDt hbp
  rcases hr with hr | hr
  · go_enter Try.func18, Try.ntmps18
    go_wp2_with fail
    go_ret2
    exact ⟨rfl, rfl⟩
  · by_cases h0 : root < 0
    · go_enter Try.func18, Try.ntmps18
      go_wp2_with fail
      go_ret2
      exact ⟨rfl, rfl⟩
    · go_enter Try.func18, Try.ntmps18
      go_wp2_with (go_at_call 17; refine HDt.out.mono ?_; rintro e w' ⟨rfl, rfl⟩)
      go_ret2
      exact ⟨rfl, rfl⟩

set_option maxRecDepth 100000 in
set_option maxHeartbeats 1000000 in
theorem right_any (w : World) (k : Int) : Calls Try.prog 114 #[.int .i64 k] w fun e w' => e = .returned (.bool (decide (0 ≤ k) && decide (k ≤ 3))) ∧ w' = w := by
  by_cases h1 : 0 ≤ k
  · by_cases h2 : k ≤ 3
    · go_enter Try.func114, Try.ntmps114
      go_wp2_with fail
      go_ret
      exact ⟨by simp [h1, h2], rfl⟩
    · go_enter Try.func114, Try.ntmps114
      go_wp2_with fail
      go_ret
      exact ⟨by simp [h2], rfl⟩
  · go_enter Try.func114, Try.ntmps114
    go_wp2_with fail
    go_ret
    exact ⟨by simp; omega, rfl⟩

def badK (k : Int) : Bool := !(decide (0 ≤ k) && decide (k ≤ 3))
def negK (k : Int) : Bool := decide (k < 0)

set_option maxRecDepth 100000 in
set_option maxHeartbeats 1000000 in
theorem addf_any (w : World) (k : Int) : Calls Try.prog 113 #[.int .i64 k] w fun e w' => e = .returned (.bool (badK k)) ∧ w' = w := by
  have h := right_any w k
  go_enter Try.func113, Try.ntmps113
  go_wp2_with (go_at_call 114; refine h.mono ?_; rintro e w' ⟨rfl, rfl⟩)
  go_ret
  exact ⟨by simp [badK], rfl⟩

set_option maxRecDepth 100000 in
set_option maxHeartbeats 1000000 in
theorem ordf_any (w : World) (k : Int) : Calls Try.prog 87 #[.int .i64 k] w fun e w' => e = .returned (.bool (negK k)) ∧ w' = w := by
  go_enter Try.func87, Try.ntmps87
  go_wp2_with fail
  go_ret
  exact ⟨rfl, rfl⟩

set_option maxRecDepth 100000 in
set_option maxHeartbeats 1000000 in
theorem new_word (w : World) : Calls Try.prog 82 #[] w fun e w' => e = .returned (.pointer (some ⟨w.heap.size, 0, none⟩)) ∧ w' = w.alloc (.cells #[nilS] 123) := by
  go_enter Try.func82, Try.ntmps82
  go_wp2_with fail
  go_ret
  exact ⟨rfl, rfl⟩

set_option maxRecDepth 100000 in
set_option maxHeartbeats 1000000 in
theorem indexf_add (w : World) (a : Option Addr) (n cap : Nat) (xs : List Int) (hv : Ints w (.slice a n cap) xs) (hn : n ≤ 8388608) :
    Calls Try.prog 116 #[.slice a n cap, .func (.func 113) #[] #[]] w fun e w' => w' = w ∧ ∃ r : Int, e = .returned (.int .i64 r) ∧ ((r = -1 ∧ ∀ i, i < n → badK (nth xs i) = false) ∨ ∃ i : Nat, r = (i : Int) ∧ i < n ∧ badK (nth xs i) = true ∧ ∀ j, j < i → badK (nth xs j) = false) := by
  have HL := Lib.hid hv.length_eq
  have HV := Lib.hid hv
  clear hv
  go_enter Try.func116, Try.ntmps116
  go_wp2_with fail
  go_loopg [8] n (fun g v8 wr => ∃ i : Nat, i ≤ n ∧ n - i ≤ g ∧ v8 = .int .i64 (i : Int) ∧ wr = w ∧ ∀ j, j < i → badK (nth xs j) = false)
  case atStart => exact ⟨0, by omega, by omega, rfl, rfl, fun j hj => by omega⟩
  case round =>
    obtain ⟨i, hi, hg, rfl, rfl, hall⟩ := hrel
    have HA := Lib.hid hall
    clear hall
    by_cases hil : i < n
    · obtain ⟨b, off, rfl, hc⟩ := HV.out.cell (i := i) (by have := HL.out; omega)
      obtain ⟨x, hx⟩ : ∃ x, nth xs i = x := ⟨_, rfl⟩
      rw [hx] at hc
      have HX := Lib.hid hx
      clear hx
      go_wp2_with fail
      refine (addf_any _ _).mono ?_
      rintro e w' ⟨rfl, rfl⟩
      cases hfx : badK x
      · go_wp2_with fail
        go_roundg (n - (i + 1))
        case measure => omega
        case rel => exact ⟨i + 1, by omega, by omega, by go_num, rfl, fun j hj => by
          by_cases e : j = i
          · subst e; rw [HX.out]; exact hfx
          · exact HA.out j (by omega)⟩
      · go_wp2_with fail
        go_ret
        exact ⟨rfl, i, rfl, Or.inr ⟨i, rfl, hil, by rw [HX.out]; exact hfx, HA.out⟩⟩
    · obtain rfl : i = n := by omega
      go_wp2_with fail
      go_ret
      exact ⟨rfl, -1, rfl, Or.inl ⟨rfl, HA.out⟩⟩

set_option maxRecDepth 100000 in
set_option maxHeartbeats 1000000 in
theorem indexf_ord (w : World) (a : Option Addr) (n cap : Nat) (xs : List Int) (hv : Ints w (.slice a n cap) xs) (hn : n ≤ 8388608) :
    Calls Try.prog 116 #[.slice a n cap, .func (.func 87) #[] #[]] w fun e w' => w' = w ∧ ∃ r : Int, e = .returned (.int .i64 r) ∧ ((r = -1 ∧ ∀ i, i < n → negK (nth xs i) = false) ∨ ∃ i : Nat, r = (i : Int) ∧ i < n ∧ negK (nth xs i) = true ∧ ∀ j, j < i → negK (nth xs j) = false) := by
  have HL := Lib.hid hv.length_eq
  have HV := Lib.hid hv
  clear hv
  go_enter Try.func116, Try.ntmps116
  go_wp2_with fail
  go_loopg [8] n (fun g v8 wr => ∃ i : Nat, i ≤ n ∧ n - i ≤ g ∧ v8 = .int .i64 (i : Int) ∧ wr = w ∧ ∀ j, j < i → negK (nth xs j) = false)
  case atStart => exact ⟨0, by omega, by omega, rfl, rfl, fun j hj => by omega⟩
  case round =>
    obtain ⟨i, hi, hg, rfl, rfl, hall⟩ := hrel
    have HA := Lib.hid hall
    clear hall
    by_cases hil : i < n
    · obtain ⟨b, off, rfl, hc⟩ := HV.out.cell (i := i) (by have := HL.out; omega)
      obtain ⟨x, hx⟩ : ∃ x, nth xs i = x := ⟨_, rfl⟩
      rw [hx] at hc
      have HX := Lib.hid hx
      clear hx
      go_wp2_with fail
      refine (ordf_any _ _).mono ?_
      rintro e w' ⟨rfl, rfl⟩
      cases hfx : negK x
      · go_wp2_with fail
        go_roundg (n - (i + 1))
        case measure => omega
        case rel => exact ⟨i + 1, by omega, by omega, by go_num, rfl, fun j hj => by
          by_cases e : j = i
          · subst e; rw [HX.out]; exact hfx
          · exact HA.out j (by omega)⟩
      · go_wp2_with fail
        go_ret
        exact ⟨rfl, i, rfl, Or.inr ⟨i, rfl, hil, by rw [HX.out]; exact hfx, HA.out⟩⟩
    · obtain rfl : i = n := by omega
      go_wp2_with fail
      go_ret
      exact ⟨rfl, -1, rfl, Or.inl ⟨rfl, HA.out⟩⟩

set_option maxRecDepth 100000 in
set_option maxHeartbeats 1000000 in
theorem containsf_add (w : World) (a : Option Addr) (n cap : Nat) (xs : List Int) (hv : Ints w (.slice a n cap) xs) (hn : n ≤ 8388608) :
    Calls Try.prog 112 #[.slice a n cap, .func (.func 113) #[] #[]] w fun e w' => w' = w ∧ ∃ r, e = .returned (.bool r) ∧ ((r = false ∧ ∀ i, i < n → badK (nth xs i) = false) ∨ (r = true ∧ ∃ i : Nat, i < n ∧ badK (nth xs i) = true)) := by
  have h := indexf_add w a n cap xs hv hn
  go_enter Try.func112, Try.ntmps112
  go_wp2_with fail
  refine h.mono ?_
  rintro e w' ⟨rfl, r, rfl, h | ⟨i, rfl, hi, hb, _⟩⟩
  · obtain ⟨rfl, h⟩ := h
    go_wp2_with fail
    go_ret
    exact ⟨rfl, false, rfl, Or.inl ⟨rfl, h⟩⟩
  · go_wp2_with fail
    go_ret
    exact ⟨rfl, true, by simp, Or.inr ⟨rfl, i, hi, hb⟩⟩


set_option maxRecDepth 100000 in
set_option maxHeartbeats 1000000 in
theorem delete_none (w : World) (a : Option Addr) (n cap : Nat) (xs : List Int) (hv : Ints w (.slice a n cap) xs) (hn : n ≤ 8388608) (h0 : ∀ i, i < n → 0 ≤ nth xs i) :
    Calls Try.prog 86 #[.slice a n cap, .func (.func 87) #[] #[]] w fun e w' => w' = w ∧ e = .returned (.slice a n cap) := by
  have h := indexf_ord w a n cap xs hv hn
  go_enter Try.func86, Try.ntmps86
  go_wp2_with fail
  refine h.mono ?_
  rintro e w' ⟨rfl, r, rfl, h | ⟨i, rfl, hi, hb, _⟩⟩
  · obtain ⟨rfl, h⟩ := h
    go_wp2_with fail
    go_ret
    exact ⟨rfl, rfl⟩
  · have := h0 i hi
    simp [negK] at hb
    omega

end Go.Proofs.Ytnbecpeiodcohaa
