/- Package slices (Clone, Equal at []int) and package perm: List, Same, Orbit. Conditions: what is read is in memory, permutations are registered, at most 4194304 elements. -/
import Derived.Test.YtnbecpeiodcohaaPermA
import Derived.Lib.SliceRun
import Derived.Deep.LoopGhost
namespace Go.Proofs.Ytnbecpeiodcohaa
open Go.RowKit
set_option linter.unusedVariables false

/-- a list of the call's own comes back -/
def RetOwn (R : Reg) (w : World) (xs : List Int) (e : Ending) (w' : World) : Prop :=
  ∃ v, e = .returned v ∧ Ev R w R w' ∧ OwnI R w.heap.size 3 w' v xs

set_option maxHeartbeats 400000 in
theorem clone_any (R : Reg) (w : World) (hI : Inv R w) (v : Value) (xs : List Int) (hv : Ints w v xs) (hn : xs.length ≤ 4194304) :
    Calls Try.prog 109 #[v] w (RetOwn R w xs) := by
  have q25 : ∀ (w : World) (a : Option Addr) (n c n' c' : Nat), (binOp .eql 25 (.slice a n c) (.slice none n' c')).run Try.prog w = .ok (.bool a.isNone) w := fun w a n c n' c' => Lib.run_eql_slice_nil w _ _ a n c n' c' Try.underlying25
  obtain ⟨a, cap, rfl, hv⟩ := hv.open
  rcases a with _ | ad
  · have hx : xs = [] := by
      rcases xs with _ | ⟨x, xs⟩
      · rfl
      · obtain ⟨b, off, e, _⟩ := hv.cell (i := 0) (by simp)
        cases e
    subst hx
    have HI := Lib.hid hI
    clear hv hI hn
    go_enter Try.func109, Try.ntmps109
    go_wp2
    go_ret
    exact ⟨_, rfl, Ev.refl HI.out, OwnI.nil R _ _ w⟩
  · have HV := Lib.hid hv
    have HI := Lib.hid hI
    clear hv hI
    go_enter Try.func109, Try.ntmps109
    go_wp2_with (at_builtin; refine wpList_app_ints (R := R) (B := w.heap.size) rfl _ _ rfl (xs := []) ⟨World.ownsRow_made w #[] 0 (Nat.le_refl _) (Nat.zero_le _) rfl, ?q0⟩ rfl ad xs.length cap xs rfl rfl ?q1 ?q2 ?q3 ?q4 ?_)
    case q0 =>
      intro k hk
      simp only [Value.ownBlock, Option.some.injEq] at hk
      exact HI.out.none_of_ge (by omega)
    case q1 =>
      intro j hj
      obtain ⟨b, off, e, hc⟩ := HV.out.cell hj
      cases e
      rw [Addr.add_lit, World.cell?_alloc_lt _ _ _ (lt_of_cell hc)]
      exact hc
    case q2 => simp; omega
    case q3 => simp
    case q4 =>
      intro k hk
      exact HI.out.none_of_ge (by simp at hk; omega)
    intro v' w1 hown hg hsp
    have HO := Lib.hid hown
    have HG := Lib.hid hg
    clear hown hg hsp
    go_wp2
    go_ret
    refine ⟨v', rfl, ((Ev.refl HI.out).alloc _).grown HG.out ?_, by simpa using HO.out⟩
    intro k hk
    simp only [Value.ownBlock, Option.some.injEq] at hk
    exact ⟨by omega, HI.out.none_of_ge (by omega)⟩

def eqL (xs ys : List Int) : Bool := decide (xs = ys)
theorem eqL_true {xs ys : List Int} (h : xs = ys) : eqL xs ys = true := by simp [eqL, h]
theorem eqL_false {xs ys : List Int} (h : xs ≠ ys) : eqL xs ys = false := by simp [eqL, h]

set_option maxHeartbeats 800000 in
theorem equal_any (R : Reg) (w : World) (hI : Inv R w) (v u : Value) (xs ys : List Int) (hv : Ints w v xs) (hu : Ints w u ys) (hn : xs.length ≤ 4194304) (hm : ys.length ≤ 4194304) :
    Calls Try.prog 49 #[v, u] w fun e w' => e = .returned (.bool (eqL xs ys)) ∧ Ev R w R w' := by
  obtain ⟨a, cap, rfl, hv⟩ := hv.open
  obtain ⟨b, cap', rfl, hu⟩ := hu.open
  have HV := Lib.hid hv
  have HU := Lib.hid hu
  have HI := Lib.hid hI
  clear hv hu hI
  by_cases hnm : xs.length = ys.length
  · rw [← hnm]
    have HM := Lib.hid hnm
    obtain ⟨n, hl⟩ : ∃ n, xs.length = n := ⟨_, rfl⟩
    rw [hl] at hn ⊢
    have HL := Lib.hid hl
    clear hl hnm hm
    go_enter Try.func49, Try.ntmps49
    go_wp2
    go_loopg [13] n (fun g s13 wr => ∃ k q : Nat, k ≤ n ∧ n - k ≤ g ∧ s13 = .int .i64 k ∧ wr = w.drewN q ∧ ∀ j, j < k → nth xs j = nth ys j)
    case atStart => exact ⟨0, 0, Nat.zero_le _, by omega, rfl, rfl, fun j hj => absurd hj (Nat.not_lt_zero _)⟩
    case round =>
      obtain ⟨k, q, hk, hg, rfl, rfl, heq⟩ := hrel
      have A := Lib.hid heq
      clear heq
      by_cases hlt : k < n
      · obtain ⟨b1, o1, e1, g1⟩ := HV.out.cell (i := k) (by rw [HL.out]; exact hlt)
        obtain ⟨b2, o2, e2, g2⟩ := HU.out.cell (i := k) (by have := HL.out; have := HM.out; omega)
        subst e1 e2
        generalize hxk : nth xs k = x at g1
        generalize hyk : nth ys k = y at g2
        have B := Lib.hid (And.intro hxk hyk)
        clear hxk hyk
        by_cases hxy : x = y
        · subst hxy
          go_wp2_with fail
          go_region
          go_wp2
          go_roundg (n - (k + 1))
          case measure => omega
          case rel =>
            refine ⟨k + 1, q + 1, by omega, by omega, by go_num, rfl, fun j hj => ?_⟩
            by_cases e : j = k
            · subst e
              rw [B.out.1, B.out.2]
            · exact A.out j (by omega)
        · go_wp2_with fail
          go_region
          go_wp2
          go_ret
          refine ⟨ret_bool (eqL_false ?_).symm, (Ev.refl HI.out).drewN (q + 1)⟩
          intro e
          exact hxy (by rw [← B.out.1, ← B.out.2, e])
      · have : k = n := by omega
        subst this
        go_wp2
        go_ret
        refine ⟨ret_bool (eqL_true ?_).symm, (Ev.refl HI.out).drewN q⟩
        exact ext_nth HM.out (fun j hj => A.out j (by have := HL.out; omega))
  · have hnm' : ¬ (xs.length : Int) = (ys.length : Int) := by omega
    go_enter Try.func49, Try.ntmps49
    go_wp2
    go_ret
    refine ⟨ret_bool (eqL_false ?_).symm, (Ev.refl HI.out)⟩
    intro e
    exact hnm (by rw [e])

set_option maxHeartbeats 400000 in
theorem list_any (R : Reg) (w : World) (hI : Inv R w) (p : Value) (s : List Nat) (hp : PermAt R p s) :
    Calls Try.prog 98 #[p] w (RetOwn R w (toI s)) := by
  obtain ⟨b, rfl, hb⟩ := hp
  obtain ⟨_, hn, a, cap, d, vf, hfx, c0, _⟩ := hI.permCells hb
  have hcl := clone_any R w hI _ _ (hfx.ints hI) (by rw [toI_length]; exact hn)
  have HC := Lib.hid hcl
  clear hcl hfx
  go_enter Try.func98, Try.ntmps98
  go_wp2_with (go_at_call 109; refine HC.out.mono ?_; rintro e w' ⟨v, rfl, h⟩)
  have H := Lib.hid h
  clear h
  go_wp2
  go_ret
  exact ⟨v, rfl, H.out⟩

theorem toI_inj {s t : List Nat} (h : toI s = toI t) : s = t := by
  unfold toI at h
  refine (List.map_inj_right (fun a b h => ?_)).1 h
  exact Int.ofNat.inj h

set_option maxHeartbeats 400000 in
theorem same_any (R : Reg) (w : World) (hI : Inv R w) (p q : Value) (s t : List Nat) (hp : PermAt R p s) (hq : PermAt R q t) (hs : s.length ≤ 4194304) (ht : t.length ≤ 4194304) :
    Calls Try.prog 108 #[p, q] w fun e w' => e = .returned (.bool (eqL (toI s) (toI t))) ∧ Ev R w R w' := by
  have HI := Lib.hid hI
  have HP := Lib.hid hp
  have HQ := Lib.hid hq
  clear hI hp hq
  go_enter Try.func108, Try.ntmps108
  go_wp2_with fail
  refine (list_any R w HI.out _ s HP.out).mono ?_
  rintro e w1 ⟨v1, rfl, he1, ho1⟩
  have HE1 := Lib.hid he1
  have HO1 := Lib.hid ho1
  clear he1 ho1
  go_wp2_with fail
  refine (list_any R w1 HE1.out.inv _ t (HE1.out.perm HQ.out)).mono ?_
  rintro e w2 ⟨v2, rfl, he2, ho2⟩
  have HE2 := Lib.hid he2
  have HO2 := Lib.hid ho2
  clear he2 ho2
  go_wp2_with fail
  refine (equal_any R w2 HE2.out.inv _ _ _ _ (HO1.out.ev HE2.out).ints HO2.out.ints (by rw [toI_length]; exact hs) (by rw [toI_length]; exact ht)).mono ?_
  rintro e w3 ⟨rfl, he3⟩
  have HE3 := Lib.hid he3
  clear he3
  go_wp2
  go_ret
  exact ⟨rfl, HE1.out.trans (HE2.out.trans HE3.out)⟩

end Go.Proofs.Ytnbecpeiodcohaa
