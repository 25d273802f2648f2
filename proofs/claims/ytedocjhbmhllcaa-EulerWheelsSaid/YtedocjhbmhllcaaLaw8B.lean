/- parquetrylaw08.awake; the functions of euler at nil. Conditions: none. -/
import Derived.Test.YtedocjhbmhllcaaRefI
import Derived.Test.YtedocjhbmhllcaaLaw8A
namespace Go.Proofs.Ytedocjhbmhllcaa
open Go.RowKit
set_option linter.unusedVariables false

theorem FreeI.four {R : Reg} {w : World} (hI : Inv R w) (x y z u : Int) : FreeI R (w.alloc (.cells #[.int .i64 x, .int .i64 y, .int .i64 z, .int .i64 u] 3)) (.slice (some ⟨w.heap.size, 0, none⟩) 4 4) [x, y, z, u] :=
  ⟨⟨_, 4, rfl, Nat.le_refl _, by simp [maxLen], fun i hi => ⟨w.heap.size, 0, rfl, by
    match i, hi with
    | 0, _ => simp [nth]
    | 1, _ => simp [nth]
    | 2, _ => simp [nth]
    | 3, _ => simp [nth]⟩⟩, Or.inr ⟨w.heap.size, 0, 4, 4, rfl, hI.none_of_ge (Nat.le_refl _)⟩⟩

theorem perm1230 : IsPerm [1, 2, 3, 0] := ⟨by decide, by decide⟩
theorem aw_g : (genusL [1, 0] == 0) = true := by decide
theorem aw_s : simpB [1, 0] = false := by decide
theorem aw_g4 : genusL [1, 2, 3, 0] = 0 := by decide
theorem aw_c4 : decide (partsN [1, 2, 3, 0] + 0 = 1) = true := by decide
theorem aw_v4 : (sizesL [1, 2, 3, 0]).length = 1 := by decide

set_option maxRecDepth 100000 in
set_option maxHeartbeats 2000000 in
theorem awake8_any (R : Reg) (w : World) (hI : Inv R w) : Calls Try.prog 46 #[] w (RetTrue R w) := by
  have hnot := not_run
  have hok1 : MapOk [1, 0] 0 ((0 : Nat) : Int) := by unfold MapOk; simp
  have hok2 : MapOk [1, 2, 3, 0] 0 ((0 : Nat) : Int) := by unfold MapOk; simp
  have h1 := new_yes R _ (hI.alloc _) _ [1, 0] (FreeI.two hI 1 0) 0 ((0 : Nat) : Int) perm10 hok1
  have H1 := Lib.hid h1
  have HI := Lib.hid hI
  have HO2 := Lib.hid hok2
  clear h1 hI hok1 hok2
  go_enter Try.func46, Try.ntmps46
  go_wp2_with fail
  refine H1.out.mono ?_
  rintro e w1 ⟨p, R1, rfl, he1, hp⟩
  have he1' := ((Ev.refl HI.out).alloc (.cells #[.int .i64 1, .int .i64 0] 3)).trans he1
  have h2 := new_yes R1 _ (he1'.inv.alloc _) _ [1, 2, 3, 0] (FreeI.four he1'.inv 1 2 3 0) 0 ((0 : Nat) : Int) perm1230 HO2.out
  obtain ⟨bp, rfl, hpb⟩ := hp
  have H2 := Lib.hid h2
  have HE1 := Lib.hid he1'
  have HP : Hid (MapAt R1 (.pointer (some ⟨bp, 0, none⟩)) [1, 0] 0 ((0 : Nat) : Int)) := Lib.hid ⟨bp, rfl, hpb⟩
  clear he1 h2 he1' hpb
  go_wp2_with fail
  refine H2.out.mono ?_
  rintro e w2 ⟨q, R2, rfl, he2, hq⟩
  obtain ⟨bq, rfl, hqb⟩ := hq
  have HQ : Hid (MapAt R2 (.pointer (some ⟨bq, 0, none⟩)) [1, 2, 3, 0] 0 ((0 : Nat) : Int)) := Lib.hid ⟨bq, rfl, hqb⟩
  have HE2 := Lib.hid ((HE1.out.alloc (.cells #[.int .i64 1, .int .i64 2, .int .i64 3, .int .i64 0] 3)).trans he2)
  have HP2 := Lib.hid (he2.map HP.out)
  have h3 := planar_any R2 w2 he2.inv _ _ _ _ HP2.out
  rw [aw_g] at h3
  have H3 := Lib.hid h3
  clear he2 hqb h3
  go_wp2_with fail
  refine H3.out.mono ?_
  rintro e w3 ⟨rfl, R3, he3⟩
  have h4 := simple_any R3 w3 he3.inv _ _ _ _ (he3.map HP2.out)
  rw [aw_s] at h4
  have H4 := Lib.hid h4
  have HE3 := Lib.hid (HE2.out.trans he3)
  have HQ3 := Lib.hid (he3.map HQ.out)
  clear he3 h4
  go_wp2_with fail
  refine H4.out.mono ?_
  rintro e w4 ⟨rfl, R4, he4⟩
  have h5 := egenus_any R4 w4 he4.inv _ _ _ _ (he4.map HQ3.out)
  rw [aw_g4] at h5
  have H5 := Lib.hid h5
  have HE4 := Lib.hid (HE3.out.trans he4)
  have HQ4 := Lib.hid (he4.map HQ3.out)
  clear he4 h5
  go_wp2_with fail
  refine H5.out.mono ?_
  rintro e w5 ⟨rfl, R5, he5⟩
  have h6 := connected_any R5 w5 he5.inv _ _ _ _ (he5.map HQ4.out)
  rw [aw_c4] at h6
  have H6 := Lib.hid h6
  have HE5 := Lib.hid (HE4.out.trans he5)
  have HQ5 := Lib.hid (he5.map HQ4.out)
  clear he5 h6
  go_wp2_with fail
  refine H6.out.mono ?_
  rintro e w6 ⟨rfl, R6, he6⟩
  have h7 := vertices_any R6 w6 he6.inv _ _ _ _ (he6.map HQ5.out)
  rw [aw_v4] at h7
  have H7 := Lib.hid h7
  have HE6 := Lib.hid (HE5.out.trans he6)
  clear he6 h7
  go_wp2_with fail
  refine H7.out.mono ?_
  rintro e w7 ⟨rfl, R7, he7⟩
  have HE7 := Lib.hid (HE6.out.trans he7)
  clear he7
  go_wp2_with fail
  go_ret
  exact ⟨rfl, R7, HE7.out⟩

def RetNilS (R : Reg) (w : World) (e : Ending) (w' : World) : Prop := ∃ a c, e = .returned (.slice a 0 c) ∧ Ev R w R w'

set_option maxRecDepth 100000 in
set_option maxHeartbeats 2000000 in
theorem names_nil (R : Reg) (w : World) (hI : Inv R w) : Calls Try.prog 56 #[.pointer none] w (RetNilS R w) := by
  obtain ⟨i0, hi, hz0, hz1, hz2⟩ := info_parts int_info
  have HI := Lib.hid hI
  clear hI
  go_enter Try.func56, Try.ntmps56
  go_wp2_with (first | (refine wpList_make_full _ rfl _ _ 25 rfl w.heap.size 3 i0 (.int .i64 0) 1 Try.underlying25 hi hz0 hz1 .i64 .i64 0 0 0 rfl rfl rfl rfl ?q1 ?q2 (Nat.le_refl _) ?_) | go_in)
  case q1 => rw [hz2]; omega
  case q2 => unfold maxLen; omega
  intro w1 ho1 hg1
  have HE1 := Lib.hid ((Ev.refl HI.out).grown hg1 (by simp))
  clear ho1 hg1
  go_wp2_with fail
  go_loopg [17] 0 (fun g v17 wr => v17 = .int .i64 0 ∧ wr = w1)
  case atStart => exact ⟨rfl, rfl⟩
  case round =>
    obtain ⟨rfl, rfl⟩ := hrel
    go_wp2_with fail
    go_loopg [26] 0 (fun g v26 wr' => v26 = .int .i64 0 ∧ wr' = wr)
    case atStart => exact ⟨rfl, rfl⟩
    case round =>
      obtain ⟨rfl, rfl⟩ := hrel
      go_wp2_with fail
      go_ret
      exact ⟨_, _, rfl, HE1.out⟩

set_option maxRecDepth 100000 in
set_option maxHeartbeats 2000000 in
theorem parts_nil (R : Reg) (w : World) (hI : Inv R w) : Calls Try.prog 55 #[.pointer none] w (RetNilS R w) := by
  have HN := Lib.hid (names_nil R w hI)
  clear hI
  go_enter Try.func55, Try.ntmps55
  go_wp2_with fail
  refine HN.out.mono ?_
  rintro e w1 ⟨a, c, rfl, he⟩
  have HE := Lib.hid he
  clear he
  go_wp2_with fail
  go_loopg [3, 14] 0 (fun g v3 v14 wr => v14 = .int .i64 0 ∧ v3 = nilS ∧ wr = w1)
  case atStart => exact ⟨rfl, rfl, rfl⟩
  case round =>
    obtain ⟨rfl, rfl, rfl⟩ := hrel
    unfold nilS
    go_wp2_with fail
    go_loopg [71] 0 (fun g v71 wr' => v71 = .int .i64 0 ∧ wr' = wr)
    case atStart => exact ⟨rfl, rfl⟩
    case round =>
      obtain ⟨rfl, rfl⟩ := hrel
      go_wp2_with go_in
      go_loopg [3, 99] 0 (fun g v3 v99 wr' => v99 = .int .i64 0 ∧ v3 = nilS ∧ wr' = wr)
      case atStart => exact ⟨rfl, rfl, rfl⟩
      case round =>
        obtain ⟨rfl, rfl, rfl⟩ := hrel
        unfold nilS
        go_wp2_with fail
        go_ret
        exact ⟨_, _, rfl, HE.out⟩

set_option maxRecDepth 100000 in
set_option maxHeartbeats 2000000 in
theorem genus_nil (R : Reg) (w : World) (hI : Inv R w) : Calls Try.prog 60 #[.pointer none] w (RetE R w (.int .i64 0)) := by
  have HN := Lib.hid (parts_nil R w hI)
  clear hI
  go_enter Try.func60, Try.ntmps60
  go_wp2_with fail
  refine HN.out.mono ?_
  rintro e w1 ⟨a, c, rfl, he⟩
  have HE := Lib.hid he
  clear he
  go_wp2_with fail
  go_loopg [3, 9] 0 (fun g v3 v9 wr => v9 = .int .i64 0 ∧ v3 = .int .i64 0 ∧ wr = w1)
  case atStart => exact ⟨rfl, rfl, rfl⟩
  case round =>
    obtain ⟨rfl, rfl, rfl⟩ := hrel
    go_wp2_with fail
    go_ret
    exact ⟨rfl, HE.out⟩

set_option maxRecDepth 100000 in
set_option maxHeartbeats 2000000 in
theorem loops_nil (R : Reg) (w : World) (hI : Inv R w) : Calls Try.prog 53 #[.pointer none] w (RetE R w (.int .i64 0)) := by
  have HI := Lib.hid hI
  clear hI
  go_enter Try.func53, Try.ntmps53
  go_wp2_with go_in
  go_loopg [3, 7] 0 (fun g v3 v9 wr => v9 = .int .i64 0 ∧ v3 = .int .i64 0 ∧ wr = w)
  case atStart => exact ⟨rfl, rfl, rfl⟩
  case round =>
    obtain ⟨rfl, rfl, rfl⟩ := hrel
    go_wp2_with fail
    go_ret
    exact ⟨rfl, Ev.refl HI.out⟩

set_option maxRecDepth 100000 in
set_option maxHeartbeats 2000000 in
theorem doubles_nil (R : Reg) (w : World) (hI : Inv R w) : Calls Try.prog 54 #[.pointer none] w (RetE R w (.int .i64 0)) := by
  have hmm := @run_makeMap Try.prog
  have HE := Lib.hid ((Ev.refl hI).alloc (.map #[] 0))
  clear hI
  go_enter Try.func54, Try.ntmps54
  go_wp2_with go_in
  obtain ⟨w1, hw1⟩ : ∃ w1, w1 = w.alloc (.map #[] 0) := ⟨_, rfl⟩
  rw [← hw1] at HE ⊢
  clear hw1 hmm
  go_loopg [4, 12] 0 (fun g v3 v9 wr => v9 = .int .i64 0 ∧ v3 = .int .i64 0 ∧ wr = w1)
  case atStart => exact ⟨rfl, rfl, rfl⟩
  case round =>
    obtain ⟨rfl, rfl, rfl⟩ := hrel
    go_wp2_with fail
    go_ret
    exact ⟨rfl, HE.out⟩

theorem planar_nil (w : World) : Calls Try.prog 49 #[.pointer none] w fun e w' => e = .returned (.bool false) ∧ w = w' := by
  go_enter Try.func49, Try.ntmps49
  go_wp2_with fail
  go_ret
  exact ⟨rfl, rfl⟩
theorem simple_nil (w : World) : Calls Try.prog 52 #[.pointer none] w fun e w' => e = .returned (.bool false) ∧ w = w' := by
  go_enter Try.func52, Try.ntmps52
  go_wp2_with fail
  go_ret
  exact ⟨rfl, rfl⟩
theorem connected_nil (R : Reg) (w : World) (hI : Inv R w) : Calls Try.prog 48 #[.pointer none] w (RetE R w (.bool false)) := by
  have HN := Lib.hid (parts_nil R w hI)
  clear hI
  go_enter Try.func48, Try.ntmps48
  go_wp2_with fail
  refine HN.out.mono ?_
  rintro e w1 ⟨a, c, rfl, he⟩
  have HE := Lib.hid he
  clear he
  go_wp2_with fail
  go_ret
  exact ⟨rfl, HE.out⟩
theorem tri_nil (w : World) : Calls Try.prog 61 #[.pointer none] w fun e w' => e = .returned (.bool false) ∧ w = w' := by
  have hnot := not_run
  go_enter Try.func61, Try.ntmps61
  go_wp2_with go_in
  go_ret
  exact ⟨rfl, rfl⟩

end Go.Proofs.Ytedocjhbmhllcaa
