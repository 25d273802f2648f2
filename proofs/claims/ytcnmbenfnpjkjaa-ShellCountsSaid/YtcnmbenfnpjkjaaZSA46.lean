/- parquetrylaw14: of, awake. Conditions: the map's list lies in memory. -/
import Derived.Test.YtcnmbenfnpjkjaaZSA44
import Derived.Test.YtcnmbenfnpjkjaaZSA45
import Derived.Test.YtcnmbenfnpjkjaaZSA13
namespace Go.Proofs.Ytcnmbenfnpjkjaa
open Go.RowKit
set_option linter.unusedVariables false

theorem FreeI.six14 {R : Reg} {w : World} (hI : Inv R w) (a b c d e f : Int) : FreeI R (w.alloc (.cells #[.int .i64 a, .int .i64 b, .int .i64 c, .int .i64 d, .int .i64 e, .int .i64 f] 3)) (.slice (some ⟨w.heap.size, 0, none⟩) 6 6) [a, b, c, d, e, f] := by
  have h := World.ownsRow_lit (base := w.heap.size) (e := 3) (size := 1) w #[.int .i64 a, .int .i64 b, .int .i64 c, .int .i64 d, .int .i64 e, .int .i64 f] 6 (Nat.le_refl _) (by simp [maxLen]) rfl
  have ho : OwnI R w.heap.size 3 (w.alloc (.cells #[.int .i64 a, .int .i64 b, .int .i64 c, .int .i64 d, .int .i64 e, .int .i64 f] 3)) (.slice (some ⟨w.heap.size, 0, none⟩) 6 6) [a, b, c, d, e, f] := by
    refine ⟨by simpa using h, fun k hk => ?_⟩
    simp only [Value.ownBlock, Option.some.injEq] at hk
    rw [← hk]
    exact hI.none_of_ge (Nat.le_refl _)
  exact ho.free

/-- a triangle's order is its corners -/
theorem order_three {s : List Nat} (h : TriS s) {r : Nat} (hr : r < s.length) (h3 : (sizesL s).length = 3) : orderL s r = cor3 s r := by
  have hl := order_len h hr
  have e2 := order_last h hr
  rw [h3] at hl e2
  unfold cor3
  refine List.ext_getElem (by rw [hl]; rfl) fun i h1 h2 => ?_
  have k : ∀ i, (hi : i < (orderL s r).length) → (orderL s r)[i] = nth (orderL s r) i := fun i hi => (nth_at hi).symm
  rw [k i h1]
  match i, h2 with
  | 0, _ => rfl
  | 1, _ => rfl
  | 2, _ => exact e2

set_option maxRecDepth 100000 in
set_option maxHeartbeats 1000000 in
theorem of14_any (R : Reg) (w : World) (hI : Inv R w) (v : Value) (s : List Nat) (root lone : Int) (hv : FreeI R w v (toI s)) (hS : IsPerm s) (hok : MapOk s root lone) :
    Calls Try.prog 8 #[refV v root lone] w fun e w' => ∃ p R', e = .returned p ∧ Ev R w R' w' ∧ MapAt R' p s root lone := by
  obtain ⟨a0, cap0, rfl, _⟩ := hv.open
  rw [toI_length] at hv ⊢
  unfold refV
  have he1 : Ev R w R (w.alloc (.cells #[.slice a0 s.length cap0, .int .i64 root, .int .i64 lone] 26)) := (Ev.refl hI).alloc _
  have HN := Lib.hid (new_yes R _ he1.inv _ s (hv.ev he1) root lone hS hok)
  have HE1 := Lib.hid he1
  clear hI hv hS hok he1
  go_enter Try.func8, Try.ntmps8
  go_wp2_with fail
  refine HN.out.mono ?_
  rintro e w2 ⟨p, R2, rfl, he2, hp⟩
  have HE2 := Lib.hid (HE1.out.trans he2)
  have HP := Lib.hid hp
  clear he2 hp
  go_wp2_with fail
  go_ret
  exact ⟨_, R2, rfl, HE2.out, HP.out⟩

set_option maxRecDepth 100000 in
set_option maxHeartbeats 2000000 in
theorem awake14_any (R : Reg) (w : World) (hI : Inv R w) : Calls Try.prog 6 #[] w (RetTrue R w) := by
  have hok3 : MapOk [5, 2, 1, 4, 3, 0] 0 0 := by unfold MapOk; simp
  have HT := Lib.hid triS_one
  have ho3 := order_three triS_one (r := 0) (by decide) (by decide +kernel)
  have HO3 := Lib.hid ho3
  have HF := Lib.hid (of14_any R _ (hI.alloc _) _ [5, 2, 1, 4, 3, 0] 0 0 (FreeI.six14 hI 5 2 1 4 3 0) triS_one.perm hok3)
  have HE0 := Lib.hid ((Ev.refl hI).alloc (.cells #[.int .i64 5, .int .i64 2, .int .i64 1, .int .i64 4, .int .i64 3, .int .i64 0] 3))
  obtain ⟨C, hC⟩ : ∃ C, cor3 [5, 2, 1, 4, 3, 0] 0 = C := ⟨_, rfl⟩
  have hCl : C.length = 3 := by rw [← hC]; rfl
  have HC := Lib.hid hC
  have HCl := Lib.hid hCl
  unfold refV at HF
  clear hI hok3 ho3 hC hCl
  go_enter Try.func6, Try.ntmps6
  go_wp2_with fail
  refine HF.out.mono ?_
  rintro e w1 ⟨p, R1, rfl, he1, hp1⟩
  have HE1 := Lib.hid (HE0.out.trans he1)
  have ho := sorder_any R1 w1 he1.inv p _ 0 (by exact hp1) HT.out (by decide)
  unfold RetOrd at ho
  rw [HO3.out, HC.out] at ho
  have HO := Lib.hid ho
  have HCo := Lib.hid (fun R' w' (he : Ev R1 w1 R' w') => by
    have hc := corners_tri R' w' he.inv p _ 0 (he.map hp1) HT.out (by decide)
    unfold RetCor at hc
    rwa [HC.out] at hc)
  clear he1 ho hp1 HF HO3 HC
  go_wp2_with fail
  refine HO.out.mono ?_
  rintro e w2 ⟨v2, R2, rfl, he2, ho2⟩
  obtain ⟨a2, c2, rfl, _⟩ := ho2.ints.open
  rw [HCl.out] at ho2 ⊢
  have HE2 := Lib.hid (HE1.out.trans he2)
  have HCo := Lib.hid (HCo.out _ _ he2)
  have HO2 := Lib.hid ho2
  clear he2 ho2 HO
  go_wp2_with fail
  refine HCo.out.mono ?_
  rintro e w3 ⟨v3, R3, rfl, he3, ho3⟩
  obtain ⟨a3, c3, rfl, _⟩ := ho3.ints.open
  rw [HCl.out] at ho3 ⊢
  have HE3 := Lib.hid (HE2.out.trans he3)
  have HEq := Lib.hid (equal_any R3 w3 he3.inv _ _ C C ((HO2.out.ev he3).ints) ho3.ints (by rw [HCl.out]; omega) (by rw [HCl.out]; omega))
  rw [eqL_true rfl] at HEq
  clear he3 ho3 HCo HO2
  go_wp2_with (go_at_call 21; refine HEq.out.mono ?_; rintro e w4 ⟨rfl, he4⟩; have HE4 := Lib.hid (HE3.out.trans he4); clear he4)
  go_ret
  exact ⟨by first | rfl | simp, R3, HE4.out⟩
end Go.Proofs.Ytcnmbenfnpjkjaa
