/- slices.Equal, slices.Clone at []walk.Step; walk.Tree, Order, Right. Conditions: what is read lies in memory. -/
import Derived.Test.YtnbecpeiodcohaaWalkC
namespace Go.Proofs.Ytnbecpeiodcohaa
open Go.RowKit
set_option linter.unusedVariables false

theorem step_same (a b c d : Int) (w : World) : (Op.equalIn 10000 41 (.agg #[.int .i64 a, .int .i64 b]) (.agg #[.int .i64 c, .int .i64 d])).run Try.prog w = .ok (a == c && b == d) w := by
  have u3 := Try.underlying3
  have a3 := Try.isAgg3
  have z3 := Try.sizeOf3
  have hS : Try.prog.underlying 41 = some (.struct (Try.prog.fieldsOf 41)) := by kernel_rfl
  have hp : Try.prog.stoodInHeld 41 = false := by kernel_rfl
  rw [show (10000 : Nat) = 9999 + 1 from rfl, run_equalIn_agg w 9999 41 _ _ hS hp]
  simp only [Program.fieldsOf, Try.underlying41]
  go_simp
  by_cases h1 : a = c <;> by_cases h2 : b = d <;> simp [h1, h2]
theorem step_neq (a b c d : Int) (w : World) : (binOp .neq 41 (.agg #[.int .i64 a, .int .i64 b]) (.agg #[.int .i64 c, .int .i64 d])).run Try.prog w = .ok (.bool (!(a == c && b == d))) w := by
  rw [run_neq_struct, step_same]; rfl
theorem step_eql (a b c d : Int) (w : World) : (binOp .eql 41 (.agg #[.int .i64 a, .int .i64 b]) (.agg #[.int .i64 c, .int .i64 d])).run Try.prog w = .ok (.bool (a == c && b == d)) w := by
  rw [run_eql_struct, step_same]; rfl

def eqStep (x y : Int × Int) : Bool := decide (x.1 = y.1) && decide (x.2 = y.2)

set_option maxRecDepth 100000 in
set_option maxHeartbeats 2000000 in
theorem sequal_any (R : Reg) (w : World) (hI : Inv R w) (a b : Option Addr) (n m c d : Nat) (xs ys : List (Int × Int)) (hv : FreeS R w (.slice a n c) xs) (hu : FreeS R w (.slice b m d) ys) (hn : n ≤ 1000000) (hm : m ≤ 1000000) :
    Calls Try.prog 81 #[.slice a n c, .slice b m d] w (RetE R w (.bool (decide (xs = ys)))) := by
  have HI := Lib.hid hI
  have HV := Lib.hid hv
  have HU := Lib.hid hu
  have HL1 := Lib.hid hv.length
  have HL2 := Lib.hid hu.length
  clear hI hv hu
  by_cases hnm : n = m
  · subst hnm
    have heq : ((n : Int) != (n : Int)) = false := by simp
    go_enter Try.func81, Try.ntmps81
    go_wp2_with fail
    go_loopg [13] n (fun gg v13 wr => ∃ i : Nat, i ≤ n ∧ n - i ≤ gg ∧ v13 = .int .i64 (i : Int) ∧ Ev R w R wr ∧ ∀ j, j < i → nthS xs j = nthS ys j)
    case atStart => exact ⟨0, by omega, by omega, rfl, Ev.refl HI.out, fun j hj => by omega⟩
    case round =>
      obtain ⟨i, hi, hg, rfl, hev, hall⟩ := hrel
      have HEv := Lib.hid hev
      have HA := Lib.hid hall
      clear hev hall
      by_cases hil : i < n
      · obtain ⟨gb, off, rfl, _, c0, c1⟩ := (HV.out.ev HEv.out).at hil
        obtain ⟨gc, off', rfl, _, d0, d1⟩ := (HU.out.ev HEv.out).at hil
        obtain ⟨x, hx⟩ : ∃ x, nthS xs i = x := ⟨_, rfl⟩
        obtain ⟨y, hy⟩ : ∃ y, nthS ys i = y := ⟨_, rfl⟩
        rw [hx] at c0 c1
        rw [hy] at d0 d1
        have HX := Lib.hid hx
        have HY := Lib.hid hy
        obtain ⟨x1, x2⟩ := x
        obtain ⟨y1, y2⟩ := y
        simp only at c0 c1 d0 d1
        clear hx hy
        have hq := step_neq x1 x2 y1 y2
        by_cases hxy : x1 = y1 ∧ x2 = y2
        · obtain ⟨rfl, rfl⟩ := hxy
          have hb : (!(x1 == x1 && x2 == x2)) = false := by simp
          rw [hb] at hq
          go_wp2_with fail
          go_quiet (fail)
          go_wp2_with fail
          go_roundg (n - (i + 1))
          case measure => omega
          case rel => exact ⟨i + 1, by omega, by omega, by go_num, HEv.out.drewN _, fun j hj => by
            by_cases e : j = i
            · subst e; rw [HX.out, HY.out]
            · exact HA.out j (by omega)⟩
        · have hb : (!(x1 == y1 && x2 == y2)) = true := by
            by_cases h1 : x1 = y1 <;> by_cases h2 : x2 = y2 <;> simp [h1, h2] <;> exact hxy ⟨h1, h2⟩
          rw [hb] at hq
          go_wp2_with fail
          go_quiet (fail)
          go_wp2_with fail
          go_ret
          refine ⟨?_, HEv.out.drewN _⟩
          rw [decide_eq_false (fun e => hxy (by
            subst e
            have := HX.out.symm.trans HY.out
            injection this with h1 h2
            exact ⟨h1, h2⟩))]
          rfl
      · obtain rfl : i = n := by omega
        go_wp2_with fail
        go_ret
        refine ⟨?_, HEv.out⟩
        have e : xs = ys := by
          refine List.ext_getElem (by rw [← HL1.out, ← HL2.out]) fun j h1 h2 => ?_
          have := HA.out j (by rw [HL1.out]; exact h1)
          rwa [nthS_get h1, nthS_get h2] at this
        rw [decide_eq_true e]
        rfl
  · have heq : ((n : Int) != (m : Int)) = true := by simp; omega
    go_enter Try.func81, Try.ntmps81
    go_wp2_with fail
    go_ret
    refine ⟨?_, Ev.refl HI.out⟩
    rw [decide_eq_false (fun e => hnm (by rw [HL1.out, HL2.out, e]))]
    rfl

end Go.Proofs.Ytnbecpeiodcohaa
