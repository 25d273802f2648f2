/- parquetrylaw06: made, awake. Conditions: the bytes lie in memory. -/
import Derived.Test.YtedocjhbmhllcaaRefD
import Derived.Test.YtedocjhbmhllcaaDartF
namespace Go.Proofs.Ytedocjhbmhllcaa
open Go.RowKit
set_option linter.unusedVariables false

/-- a map, and the document's -/
def MadeMap (R : Reg) (w : World) (S : List Nat) (r l : Int) (e : Ending) (w' : World) : Prop :=
  ∃ p a c R', e = .returned (.tuple #[p, refV (.slice a S.length c) r l]) ∧ Ev R w R' w' ∧ MapAt R' p S r l ∧ FreeI R' w' (.slice a S.length c) (toI S)

theorem anyRoot_ok {n r : Nat} : (2 * n = 0 ∧ anyRoot n r = -1) ∨ (0 ≤ anyRoot n r ∧ anyRoot n r < (2 * n : Nat)) := by
  unfold anyRoot
  split
  · rename_i h
    have := Nat.mod_lt r (show 2 * n > 0 by omega)
    right; omega
  · left; omega

theorem made_ok (n r : Nat) (bs : List Nat) (l : Nat) (hn : n ≤ 1000) (hl : l ≤ 1000) : MapOk (mixL (2 * n) bs) (anyRoot n r) l := by
  have := @anyRoot_ok n r
  unfold MapOk
  rw [mixL_length]
  omega

set_option maxRecDepth 100000 in
set_option maxHeartbeats 2000000 in
theorem made_any (R : Reg) (w : World) (hI : Inv R w) (n rt ln : Nat) (hn : n ≤ 255) (hr : rt ≤ 255) (hl : ln ≤ 255) (v : Value) (bs : List Nat) (hv : FreeB R w v bs) :
    Calls Try.prog 16 #[.int .u8 (n : Int), v, .int .u8 (rt : Int), .int .u8 (ln : Int)] w (MadeMap R w (mixL (2 * (n % 10)) bs) (anyRoot (n % 10) rt) ((ln % 5 : Nat) : Int)) := by
  have he0 : Ev R w R (w.alloc (.cells #[.slice none 0 0, .int .i64 0, .int .i64 0] 27)) := (Ev.refl hI).alloc _
  have hm := rany_any R _ he0.inv (n % 10) (by omega) v bs (hv.ev he0) rt hr
  have hok := made_ok (n % 10) rt bs (ln % 5) (by omega) (by omega)
  have hS := mixL_perm (2 * (n % 10)) bs
  rw [show ((n % 10 : Nat) : Int) = (n : Int) % 10 from by omega] at hm
  obtain ⟨S, hSe⟩ : ∃ S, mixL (2 * (n % 10)) bs = S := ⟨_, rfl⟩
  obtain ⟨r, hre⟩ : ∃ r, anyRoot (n % 10) rt = r := ⟨_, rfl⟩
  rw [show ((ln % 5 : Nat) : Int) = (ln : Int) % 5 from by omega] at hok ⊢
  rw [hSe, hre] at hm hok ⊢
  rw [hSe] at hS
  have HM := Lib.hid hm
  have HOK := Lib.hid hok
  have HS := Lib.hid hS
  have HE0 := Lib.hid he0
  have HI := Lib.hid hI
  obtain ⟨a0, c0, rfl, _⟩ := hv
  clear hm he0 hI hSe hre hok hS
  go_enter Try.func16, Try.ntmps16
  go_wp2_with fail
  refine HM.out.mono ?_
  rintro e w1 ⟨a1, c1, rfl, he1, ho1⟩
  unfold refV
  have hz := he1.size
  simp only [World.size_alloc] at hz
  have hc0 : w1.heap[w.heap.size]? = some (.cells #[.slice none 0 0, .int .i64 0, .int .i64 0] 27 (0, 0)) := by
    rw [he1.block _ (by simp) (HI.out.none_of_ge (Nat.le_refl _))]
    exact heap_alloc_new w _
  have he2 := (HE0.out.trans he1).alloc (.cells #[.slice a1 S.length c1, .int .i64 r, .int .i64 ((ln : Int) % 5)] 27)
  have ho2 := ho1.alloc (.cells #[.slice a1 S.length c1, .int .i64 r, .int .i64 ((ln : Int) % 5)] 27)
  have hnew := new_yes R _ he2.inv (.slice a1 S.length c1) S ho2.free r ((ln : Int) % 5) HS.out HOK.out
  have HN := Lib.hid hnew
  have HE1 := Lib.hid (HE0.out.trans he1)
  have HE2 := Lib.hid he2
  have HO2 := Lib.hid ho2
  have HC0 := Lib.hid hc0
  clear he1 ho1 he2 ho2 hnew hc0
  go_wp2_with fail
  refine HN.out.mono ?_
  rintro e w2 ⟨p, R2, rfl, he3, hm3⟩
  have hsz1 : w1.heap.size + 1 ≤ w2.heap.size := by have := he3.size; simpa using this
  have hb1 : w2.heap[w1.heap.size]? = some (.cells #[.slice a1 S.length c1, .int .i64 r, .int .i64 ((ln : Int) % 5)] 27 (0, 0)) := by
    rw [he3.block _ (by simp) (HE1.out.inv.none_of_ge (Nat.le_refl _))]
    exact heap_alloc_new w1 _
  have hb0 : w2.heap[w.heap.size]? = some (.cells #[.slice none 0 0, .int .i64 0, .int .i64 0] 27 (0, 0)) := by
    rw [he3.block _ (by simp; omega) (HI.out.none_of_ge (Nat.le_refl _)), Below.heap_alloc _ _ _ (by omega)]
    exact HC0.out
  have k0 : w2.cell? ⟨w1.heap.size, 0, none⟩ = some (.slice a1 S.length c1) := by simp [World.cell?, hb1]
  have k1 : w2.cell? ⟨w1.heap.size, 1, none⟩ = some (.int .i64 r) := by simp [World.cell?, hb1]
  have k2 : w2.cell? ⟨w1.heap.size, 2, none⟩ = some (.int .i64 ((ln : Int) % 5)) := by simp [World.cell?, hb1]
  have j0 : w2.cell? ⟨w.heap.size, 0, none⟩ = some (.slice none 0 0) := by simp [World.cell?, hb0]
  have j1 : w2.cell? ⟨w.heap.size, 1, none⟩ = some (.int .i64 0) := by simp [World.cell?, hb0]
  have j2 : w2.cell? ⟨w.heap.size, 2, none⟩ = some (.int .i64 0) := by simp [World.cell?, hb0]
  have z0 : ∀ o, w2.frozen? ⟨w.heap.size, o, none⟩ = false := fun o => by simp [World.frozen?, hb0]
  have HB0 := Lib.hid hb0
  have HE3 := Lib.hid he3
  have HM3 := Lib.hid hm3
  have hn2 : R2 w.heap.size = none := he3.free _ (by simp; omega) (HI.out.none_of_ge (Nat.le_refl _))
  have HN2 := Lib.hid hn2
  clear hb0 hb1 he3 hm3 hn2
  go_wp2_with fail
  go_region
  all_goals go_wp2_with fail
  have hb3 := set3 (x := .slice a1 S.length c1) (y := .int .i64 r) (z := .int .i64 ((ln : Int) % 5)) HB0.out
  have w0 : ((((w2.setCell ⟨w.heap.size, 0, none⟩ (.slice a1 S.length c1)).setCell ⟨w.heap.size, 1, none⟩ (.int .i64 r)).setCell ⟨w.heap.size, 2, none⟩ (.int .i64 ((ln : Int) % 5))).drew).cell? ⟨w.heap.size, 0, none⟩ = some (.slice a1 S.length c1) := by rw [World.cell?_drew, cells_at hb3]; rfl
  have w1' : ((((w2.setCell ⟨w.heap.size, 0, none⟩ (.slice a1 S.length c1)).setCell ⟨w.heap.size, 1, none⟩ (.int .i64 r)).setCell ⟨w.heap.size, 2, none⟩ (.int .i64 ((ln : Int) % 5))).drew).cell? ⟨w.heap.size, 1, none⟩ = some (.int .i64 r) := by rw [World.cell?_drew, cells_at hb3]; rfl
  have w2' : ((((w2.setCell ⟨w.heap.size, 0, none⟩ (.slice a1 S.length c1)).setCell ⟨w.heap.size, 1, none⟩ (.int .i64 r)).setCell ⟨w.heap.size, 2, none⟩ (.int .i64 ((ln : Int) % 5))).drew).cell? ⟨w.heap.size, 2, none⟩ = some (.int .i64 ((ln : Int) % 5)) := by rw [World.cell?_drew, cells_at hb3]; rfl
  refine bodyPost_ret (v := .tuple #[p, refV (.slice a1 S.length c1) r ((ln : Int) % 5)]) ?_ rfl ⟨p, a1, c1, R2, rfl, ?_, HM3.out, ?_⟩
  · simp only [World.cell?_drew] at w0 w1' w2'
    simp [results, Try.results16, go_sem, w0, w1', w2', refV]
  · exact ((((HE2.out.trans HE3.out).setCell (Nat.le_refl _) HN2.out _).setCell (Nat.le_refl _) HN2.out _).setCell (Nat.le_refl _) HN2.out _).drew
  · have ho3 := HO2.out.ev HE3.out
    have hne : ∀ (o : Nat), (Value.slice a1 S.length c1).ownBlock ≠ some (⟨w.heap.size, o, none⟩ : Addr).block := fun o e => by
      have h : w.heap.size + 1 ≤ w.heap.size := by have := (ho3.lt _ e).1; simpa using this
      omega
    exact ((((ho3.setCell (hne 0) _).setCell (hne 1) _).setCell (hne 2) _).drew).free

/-- nothing but true comes back -/
def RetTrue (R : Reg) (w : World) (e : Ending) (w' : World) : Prop := e = .returned (.bool true) ∧ ∃ R', Ev R w R' w'

theorem Ints.two (w : World) (x y : Int) : FreeI noReg (w.alloc (.cells #[.int .i64 x, .int .i64 y] 3)) (.slice (some ⟨w.heap.size, 0, none⟩) 2 2) [x, y] :=
  ⟨⟨_, 2, rfl, Nat.le_refl _, by simp [maxLen], fun i hi => ⟨w.heap.size, 0, rfl, by
    match i, hi with
    | 0, _ => simp [nth]
    | 1, _ => simp [nth]⟩⟩, Or.inr ⟨w.heap.size, 0, 2, 2, rfl, rfl⟩⟩

theorem FreeI.two {R : Reg} {w : World} (hI : Inv R w) (x y : Int) : FreeI R (w.alloc (.cells #[.int .i64 x, .int .i64 y] 3)) (.slice (some ⟨w.heap.size, 0, none⟩) 2 2) [x, y] :=
  ⟨(Ints.two w x y).1, Or.inr ⟨w.heap.size, 0, 2, 2, rfl, hI.none_of_ge (Nat.le_refl _)⟩⟩

theorem perm01 : IsPerm [0, 1] := ⟨by decide, by decide⟩
theorem perm10 : IsPerm [1, 0] := ⟨by decide, by decide⟩
theorem cnt01 : (sizesL [0, 1]).length = 2 := by decide
theorem cnt10 : (sizesL [1, 0]).length = 1 := by decide
theorem cntp01 : (sizesL (phiL [0, 1])).length = 1 := by decide
theorem cntp10 : (sizesL (phiL [1, 0])).length = 2 := by decide

set_option maxRecDepth 100000 in
set_option maxHeartbeats 2000000 in
theorem awake6_any (R : Reg) (w : World) (hI : Inv R w) : Calls Try.prog 15 #[] w (RetTrue R w) := by
  have hok1 : MapOk [0, 1] 0 0 := by unfold MapOk; simp
  have hok2 : MapOk [1, 0] 0 0 := by unfold MapOk; simp
  have h1 := new_yes R _ (hI.alloc _) _ [0, 1] (FreeI.two hI 0 1) 0 0 perm01 hok1
  have H1 := Lib.hid h1
  have HI := Lib.hid hI
  have HO2 := Lib.hid hok2
  clear h1 hI hok1 hok2
  go_enter Try.func15, Try.ntmps15
  go_wp2_with fail
  refine H1.out.mono ?_
  rintro e w1 ⟨p, R1, rfl, he1, hp⟩
  have he1' := ((Ev.refl HI.out).alloc (.cells #[.int .i64 0, .int .i64 1] 3)).trans he1
  have h2 := new_yes R1 _ (he1'.inv.alloc _) _ [1, 0] (FreeI.two he1'.inv 1 0) 0 0 perm10 HO2.out
  have H2 := Lib.hid h2
  have HE1 := Lib.hid he1'
  have HP := Lib.hid hp
  clear he1 h2 he1' hp
  go_wp2_with fail
  refine H2.out.mono ?_
  rintro e w2 ⟨q, R2, rfl, he2, hq⟩
  have he2' := (HE1.out.alloc (.cells #[.int .i64 1, .int .i64 0] 3)).trans he2
  have hp2 := he2.map HP.out
  have h3 := vertices_any R2 w2 he2.inv p [0, 1] 0 0 hp2
  rw [cnt01] at h3
  have H3 := Lib.hid h3
  have HE2 := Lib.hid he2'
  have HP2 := Lib.hid hp2
  have HQ := Lib.hid hq
  clear he2 he2' hp2 h3 hq
  go_wp2_with fail
  refine H3.out.mono ?_
  rintro e w3 ⟨rfl, R3, he3⟩
  have h4 := borders_any R3 w3 he3.inv p [0, 1] 0 0 (he3.map HP2.out)
  rw [cntp01] at h4
  have H4 := Lib.hid h4
  have HE3 := Lib.hid (HE2.out.trans he3)
  have HQ3 := Lib.hid (he3.map HQ.out)
  clear he3 h4
  go_wp2_with fail
  refine H4.out.mono ?_
  rintro e w4 ⟨rfl, R4, he4⟩
  have h5 := vertices_any R4 w4 he4.inv q [1, 0] 0 0 (he4.map HQ3.out)
  rw [cnt10] at h5
  have H5 := Lib.hid h5
  have HE4 := Lib.hid (HE3.out.trans he4)
  have HQ4 := Lib.hid (he4.map HQ3.out)
  clear he4 h5
  go_wp2_with fail
  refine H5.out.mono ?_
  rintro e w5 ⟨rfl, R5, he5⟩
  have h6 := borders_any R5 w5 he5.inv q [1, 0] 0 0 (he5.map HQ4.out)
  rw [cntp10] at h6
  have H6 := Lib.hid h6
  have HE5 := Lib.hid (HE4.out.trans he5)
  clear he5 h6
  go_wp2_with fail
  refine H6.out.mono ?_
  rintro e w6 ⟨rfl, R6, he6⟩
  have HE6 := Lib.hid (HE5.out.trans he6)
  clear he6
  go_wp2_with fail
  go_ret
  exact ⟨rfl, R6, HE6.out⟩

end Go.Proofs.Ytedocjhbmhllcaa
