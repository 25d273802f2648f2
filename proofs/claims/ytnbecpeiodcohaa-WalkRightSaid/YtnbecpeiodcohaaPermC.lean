/- package perm: Orbit. Conditions: permutations are registered. -/
import Derived.Test.YtnbecpeiodcohaaPermB
import Derived.Test.YtnbecpeiodcohaaMath
namespace Go.Proofs.Ytnbecpeiodcohaa
open Go.RowKit
set_option linter.unusedVariables false

def orbI (s : List Nat) (i : Int) : List Int := if 0 ≤ i ∧ i < s.length then toI (orbitL s i.toNat) else []
theorem orbI_out {s : List Nat} {i : Int} (h : i < 0 ∨ (s.length : Int) ≤ i) : orbI s i = [] := by
  unfold orbI; rw [if_neg (by omega)]
theorem orbI_in {s : List Nat} {i : Nat} (h : i < s.length) : orbI s (i : Int) = toI (orbitL s i) := by
  unfold orbI; rw [if_pos (by omega)]; simp

theorem toI_append (l : List Nat) (x : Nat) : toI (l ++ [x]) = toI l ++ [(x : Int)] := by simp [toI]

set_option maxHeartbeats 1000000 in
theorem orbit_in (R : Reg) (w : World) (hI : Inv R w) (p : Value) (s : List Nat) (hp : PermAt R p s) (i : Nat) (hi : i < s.length) :
    Calls Try.prog 131 #[p, .int .i64 (i : Int)] w (RetOwn R w (toI (orbitL s i))) := by
  have HL := Lib.hid (len_any R w hI p s hp)
  obtain ⟨b, rfl, hb⟩ := hp
  obtain ⟨hP, hn, a, cap, d, vf, hfx, c0, _⟩ := hI.permCells hb
  obtain ⟨b', off, rfl, hc⟩ := hfx.cell hI hi
  have hlt := lt_of_cell c0
  have hlt' := lt_of_cell hc
  have h1 : ¬ ((i : Int) < 0) := by omega
  have h2 : decide (s.length ≤ i) = false := by simp; omega
  have HI := Lib.hid hI
  have HB := Lib.hid hb
  have HP := Lib.hid hP
  clear hfx hI hb hP
  go_enter Try.func131, Try.ntmps131
  go_wp2_with (go_at_call 76; refine HL.out.mono ?_; rintro e w' ⟨rfl, rfl⟩)
  clear hc
  go_loopg [5, 6] s.length (fun g v x wr => ∃ (f : Nat) (l : List Nat) (y : Nat), f ≤ g ∧ x = .int .i64 (y : Int) ∧ y < s.length ∧ Reach s i f y ∧ l.length + f ≤ s.length + 1 ∧ l ++ orbitGo s i f y = orbitL s i ∧ Ev R w R wr ∧ OwnI R w.heap.size 3 wr v (toI l))
  case atStart =>
    refine ⟨s.length, [i], at' s i, Nat.le_refl _, rfl, HP.out.lt hi, HP.out.reach hi, by simp; omega, rfl, (Ev.refl HI.out).alloc _, ?_, ?_⟩
    · simpa [toI] using World.ownsRow_lit (base := w.heap.size) (e := 3) (size := 1) w #[.int .i64 (i : Int)] 1 (Nat.le_refl _) (by simp [maxLen]) rfl
    · intro k hk
      simp only [Value.ownBlock, Option.some.injEq] at hk
      exact HI.out.none_of_ge (by omega)
  case round =>
    obtain ⟨f, l, y, hg, rfl, hy, hr, hlf, heq, he, ho⟩ := hrel
    have HR := Lib.hid hr
    have HQ := Lib.hid heq
    have HE := Lib.hid he
    have HO := Lib.hid ho
    clear hr heq he ho c0
    by_cases hyi : y = i
    · subst hyi
      go_wp2
      go_ret
      refine ⟨_, rfl, HE.out, ?_⟩
      have e := HQ.out
      rw [orbitGo_end, List.append_nil] at e
      rw [← e]
      exact HO.out
    · obtain ⟨f', hf, hr'⟩ := HR.out.next hyi
      have HR' := Lib.hid hr'
      have hi' : ¬ (y : Int) = (i : Int) := by omega
      have HLL := Lib.hid (show l.length ≤ 4194305 by omega)
      clear hr'
      go_wp2_with (at_builtin; refine wpList_app_int (R := R) (B := w.heap.size) rfl _ _ rfl (HO.out.alloc _) rfl ⟨wr.heap.size, 0, none⟩ 1 (y : Int) rfl ?q1 ?q2 ?q3 ?q4 ?_)
      case q1 => simp
      case q2 => rw [toI_length]; have := HLL.out; omega
      case q3 => simp; have := HE.out.size; omega
      case q4 => intro k hk; exact HE.out.inv.none_of_ge (by simp at hk; omega)
      intro v' w1 ho1 hg1 hs1
      have he1 := (HE.out.alloc (.cells #[.int .i64 (y : Int)] 3)).app (HO.out.alloc _) (Nat.le_refl _) hg1
      have HE1 := Lib.hid he1
      have HO1 := Lib.hid ho1
      obtain ⟨_, _, a, cap, d, vf, hfx, c0, _⟩ := HE1.out.inv.permCells HB.out
      obtain ⟨b', off, rfl, hc⟩ := hfx.cell HE1.out.inv hy
      clear hfx he1 ho1 hg1 hs1
      go_wp2
      go_roundg f'
      case measure => omega
      case rel =>
        refine ⟨f', l ++ [y], at' s y, Nat.le_refl _, rfl, HP.out.lt hy, HR'.out, by simp; omega, ?_, HE1.out, ?_⟩
        · have e := HQ.out
          rw [hf, orbitGo_next hyi] at e
          rw [← e]
          simp
        · rw [toI_append]; exact HO1.out

set_option maxHeartbeats 400000 in
theorem orbit_any (R : Reg) (w : World) (hI : Inv R w) (p : Value) (s : List Nat) (hp : PermAt R p s) (i : Int) :
    Calls Try.prog 131 #[p, .int .i64 i] w (RetOwn R w (orbI s i)) := by
  by_cases hin : 0 ≤ i ∧ i < s.length
  · obtain ⟨k, rfl⟩ := Int.eq_ofNat_of_zero_le hin.1
    rw [orbI_in (by omega)]
    exact orbit_in R w hI p s hp k (by omega)
  · have HA := Lib.hid (orbI_out (s := s) (i := i) (by omega))
    have HI := Lib.hid hI
    have HL := Lib.hid (len_any R w hI p s hp)
    obtain ⟨b, rfl, hb⟩ := hp
    clear hI hb
    by_cases h0 : i < 0
    · clear hin
      go_enter Try.func131, Try.ntmps131
      go_wp2_with fail
      go_ret
      exact ⟨_, rfl, Ev.refl HI.out, by rw [HA.out]; exact OwnI.nil R _ _ w⟩
    · have h2 : (s.length : Int) ≤ i := by omega
      clear hin
      go_enter Try.func131, Try.ntmps131
      go_wp2_with (go_at_call 76; refine HL.out.mono ?_; rintro e w' ⟨rfl, rfl⟩)
      go_ret
      exact ⟨_, rfl, Ev.refl HI.out, by rw [HA.out]; exact OwnI.nil R _ _ w⟩

end Go.Proofs.Ytnbecpeiodcohaa
