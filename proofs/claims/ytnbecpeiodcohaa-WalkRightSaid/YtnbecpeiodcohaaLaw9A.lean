/- parquetrylaw09: made, awake. Conditions: the bytes lie in memory. -/
import Derived.Test.YtnbecpeiodcohaaLaw0
import Derived.Test.YtnbecpeiodcohaaWalkE
import Derived.Test.YtnbecpeiodcohaaWalkB
namespace Go.Proofs.Ytnbecpeiodcohaa
open Go.RowKit
set_option linter.unusedVariables false

set_option maxRecDepth 100000 in
set_option maxHeartbeats 2000000 in
theorem made9_any (R : Reg) (w : World) (hI : Inv R w) (n : Nat) (hn : n ≤ 255) (v : Value) (bs : List Nat) (hv : FreeB R w v bs) :
    Calls Try.prog 16 #[.int .u8 (n : Int), v] w (MadeMap R w (mixL (2 * (n % 14)) bs) (anyRoot (n % 14) 0) 0) := by
  have he0 : Ev R w R (w.alloc (.cells #[.slice none 0 0, .int .i64 0, .int .i64 0] 27)) := (Ev.refl hI).alloc _
  have hm := rany_any R _ he0.inv (n % 14) (by omega) v bs (hv.ev he0) 0 (by omega)
  have hok := made_ok (n % 14) 0 bs 0 (by omega) (by omega)
  have hS := mixL_perm (2 * (n % 14)) bs
  rw [show ((n % 14 : Nat) : Int) = (n : Int) % 14 from by omega, show ((0 : Nat) : Int) = 0 from rfl] at hm
  rw [show ((0 : Nat) : Int) = 0 from rfl] at hok
  obtain ⟨S, hSe⟩ : ∃ S, mixL (2 * (n % 14)) bs = S := ⟨_, rfl⟩
  obtain ⟨r, hre⟩ : ∃ r, anyRoot (n % 14) 0 = r := ⟨_, rfl⟩
  rw [hSe, hre] at hm hok ⊢
  rw [hSe] at hS
  have HM := Lib.hid hm
  have HOK := Lib.hid hok
  have HS := Lib.hid hS
  have HE0 := Lib.hid he0
  have HI := Lib.hid hI
  obtain ⟨a0, c0, rfl, _⟩ := hv
  clear hm he0 hI hSe hre hok hS
  go_enter Try.func16, Try.ntmps16
  go_wp2_with fail
  refine HM.out.mono ?_
  rintro e w1 ⟨a1, c1, rfl, he1, ho1⟩
  unfold refV
  have hz := he1.size
  simp only [World.size_alloc] at hz
  have hc0 : w1.heap[w.heap.size]? = some (.cells #[.slice none 0 0, .int .i64 0, .int .i64 0] 27 (0, 0)) := by
    rw [he1.block _ (by simp) (HI.out.none_of_ge (Nat.le_refl _))]
    exact heap_alloc_new w _
  have he2 := (HE0.out.trans he1).alloc (.cells #[.slice a1 S.length c1, .int .i64 r, .int .i64 0] 27)
  have ho2 := ho1.alloc (.cells #[.slice a1 S.length c1, .int .i64 r, .int .i64 0] 27)
  have hnew := new_yes R _ he2.inv (.slice a1 S.length c1) S ho2.free r 0 HS.out HOK.out
  have HN := Lib.hid hnew
  have HE1 := Lib.hid (HE0.out.trans he1)
  have HE2 := Lib.hid he2
  have HO2 := Lib.hid ho2
  have HC0 := Lib.hid hc0
  clear he1 ho1 he2 ho2 hnew hc0
  go_wp2_with fail
  refine HN.out.mono ?_
  rintro e w2 ⟨p, R2, rfl, he3, hm3⟩
  have hsz1 : w1.heap.size + 1 ≤ w2.heap.size := by have := he3.size; simpa using this
  have hb1 : w2.heap[w1.heap.size]? = some (.cells #[.slice a1 S.length c1, .int .i64 r, .int .i64 0] 27 (0, 0)) := by
    rw [he3.block _ (by simp) (HE1.out.inv.none_of_ge (Nat.le_refl _))]
    exact heap_alloc_new w1 _
  have hb0 : w2.heap[w.heap.size]? = some (.cells #[.slice none 0 0, .int .i64 0, .int .i64 0] 27 (0, 0)) := by
    rw [he3.block _ (by simp; omega) (HI.out.none_of_ge (Nat.le_refl _)), Below.heap_alloc _ _ _ (by omega)]
    exact HC0.out
  have k0 : w2.cell? ⟨w1.heap.size, 0, none⟩ = some (.slice a1 S.length c1) := by simp [World.cell?, hb1]
  have k1 : w2.cell? ⟨w1.heap.size, 1, none⟩ = some (.int .i64 r) := by simp [World.cell?, hb1]
  have k2 : w2.cell? ⟨w1.heap.size, 2, none⟩ = some (.int .i64 0) := by simp [World.cell?, hb1]
  have j0 : w2.cell? ⟨w.heap.size, 0, none⟩ = some (.slice none 0 0) := by simp [World.cell?, hb0]
  have j1 : w2.cell? ⟨w.heap.size, 1, none⟩ = some (.int .i64 0) := by simp [World.cell?, hb0]
  have j2 : w2.cell? ⟨w.heap.size, 2, none⟩ = some (.int .i64 0) := by simp [World.cell?, hb0]
  have z0 : ∀ o, w2.frozen? ⟨w.heap.size, o, none⟩ = false := fun o => by simp [World.frozen?, hb0]
  have HB0 := Lib.hid hb0
  have HE3 := Lib.hid he3
  have HM3 := Lib.hid hm3
  have hn2 : R2 w.heap.size = none := he3.free _ (by simp; omega) (HI.out.none_of_ge (Nat.le_refl _))
  have HN2 := Lib.hid hn2
  clear hb0 hb1 he3 hm3 hn2
  go_wp2_with fail
  go_region
  all_goals go_wp2_with fail
  have hb3 := set3 (x := .slice a1 S.length c1) (y := .int .i64 r) (z := .int .i64 0) HB0.out
  have w0 : ((((w2.setCell ⟨w.heap.size, 0, none⟩ (.slice a1 S.length c1)).setCell ⟨w.heap.size, 1, none⟩ (.int .i64 r)).setCell ⟨w.heap.size, 2, none⟩ (.int .i64 0)).drew).cell? ⟨w.heap.size, 0, none⟩ = some (.slice a1 S.length c1) := by rw [World.cell?_drew, cells_at hb3]; rfl
  have w1' : ((((w2.setCell ⟨w.heap.size, 0, none⟩ (.slice a1 S.length c1)).setCell ⟨w.heap.size, 1, none⟩ (.int .i64 r)).setCell ⟨w.heap.size, 2, none⟩ (.int .i64 0)).drew).cell? ⟨w.heap.size, 1, none⟩ = some (.int .i64 r) := by rw [World.cell?_drew, cells_at hb3]; rfl
  have w2' : ((((w2.setCell ⟨w.heap.size, 0, none⟩ (.slice a1 S.length c1)).setCell ⟨w.heap.size, 1, none⟩ (.int .i64 r)).setCell ⟨w.heap.size, 2, none⟩ (.int .i64 0)).drew).cell? ⟨w.heap.size, 2, none⟩ = some (.int .i64 0) := by rw [World.cell?_drew, cells_at hb3]; rfl
  refine bodyPost_ret (v := .tuple #[p, refV (.slice a1 S.length c1) r 0]) ?_ rfl ⟨p, a1, c1, R2, rfl, ?_, HM3.out, ?_⟩
  · simp only [World.cell?_drew] at w0 w1' w2'
    simp [results, Try.results16, go_sem, w0, w1', w2', refV]
  · exact ((((HE2.out.trans HE3.out).setCell (Nat.le_refl _) HN2.out _).setCell (Nat.le_refl _) HN2.out _).setCell (Nat.le_refl _) HN2.out _).drew
  · have ho3 := HO2.out.ev HE3.out
    have hne : ∀ (o : Nat), (Value.slice a1 S.length c1).ownBlock ≠ some (⟨w.heap.size, o, none⟩ : Addr).block := fun o e => by
      have h : w.heap.size + 1 ≤ w.heap.size := by have := (ho3.lt _ e).1; simpa using this
      omega
    exact ((((ho3.setCell (hne 0) _).setCell (hne 1) _).setCell (hne 2) _).drew).free

theorem stepL01 : stepL [0, 1] ((sizesL [0, 1]).length + 0) 0 (partC' [0, 1] 0) = [(0, 0), (1, 1)] := by
  rw [wpart perm01 (by decide) (by decide) (V := (sizesL [0, 1]).length) (Nat.le_refl _)]
  decide
theorem stepL10 : stepL [1, 0] ((sizesL [1, 0]).length + 0) 0 (partC' [1, 0] 0) = [(0, 2), (1, 3)] := by
  rw [wpart perm10 (by decide) (by decide) (V := (sizesL [1, 0]).length) (Nat.le_refl _)]
  decide

set_option maxRecDepth 100000 in
set_option maxHeartbeats 2000000 in
theorem awake9_any (R : Reg) (w : World) (hI : Inv R w) : Calls Try.prog 15 #[] w (RetTrue R w) := by
  have hok1 : MapOk [0, 1] 0 0 := by unfold MapOk; simp
  have hok2 : MapOk [1, 0] 0 0 := by unfold MapOk; simp
  have h1 := new_yes R _ (hI.alloc _) _ [1, 0] (FreeI.two hI 1 0) 0 0 perm10 hok2
  have H1 := Lib.hid h1
  have HI := Lib.hid hI
  have HO2 := Lib.hid hok1
  clear h1 hI hok1 hok2
  go_enter Try.func15, Try.ntmps15
  go_wp2_with fail
  refine H1.out.mono ?_
  rintro e w1 ⟨p, R1, rfl, he1, hp⟩
  have he1' := ((Ev.refl HI.out).alloc (.cells #[.int .i64 1, .int .i64 0] 3)).trans he1
  have h2 := new_yes R1 _ (he1'.inv.alloc _) _ [0, 1] (FreeI.two he1'.inv 0 1) 0 0 perm01 HO2.out
  have H2 := Lib.hid h2
  have HE1 := Lib.hid he1'
  have HP := Lib.hid hp
  clear he1 h2 he1' hp
  go_wp2_with fail
  refine H2.out.mono ?_
  rintro e w2 ⟨q, R2, rfl, he2, hq⟩
  have he2' := (HE1.out.alloc (.cells #[.int .i64 0, .int .i64 1] 3)).trans he2
  have h3 := walk_of R2 w2 he2'.inv p [1, 0] 0 0 ((he2.map HP.out)) 0 (by decide)
  rw [stepL10] at h3
  have H3 := Lib.hid h3
  have HE2 := Lib.hid he2'
  have HQ := Lib.hid hq
  clear he2 h3 he2' hq
  go_wp2_with fail
  refine H3.out.mono ?_
  rintro e w3 ⟨R3, a3, c3, rfl, he3, ho3⟩
  have h4 := walk_of R3 w3 he3.inv q [0, 1] 0 0 (he3.map HQ.out) 0 (by decide)
  rw [stepL01] at h4
  have H4 := Lib.hid h4
  have HE3 := Lib.hid (HE2.out.trans he3)
  have HF3 := Lib.hid (FreeS.of_own ho3)
  clear he3 ho3 h4
  go_wp2_with fail
  refine H4.out.mono ?_
  rintro e w4 ⟨R4, a4, c4, rfl, he4, ho4⟩
  have HE4 := Lib.hid (HE3.out.trans he4)
  have hf3 := HF3.out.ev he4
  have HF4 := Lib.hid (FreeS.of_own ho4)
  have h5 := word_any R4 w4 he4.inv a3 2 c3 _ hf3 (by omega)
  have H5 := Lib.hid h5
  clear he4 ho4 hf3 h5 HF3
  go_wp2_with fail
  refine H5.out.mono ?_
  rintro e w5 ⟨v5, rfl, he5, hw5⟩
  have e5 : wordL [((0 : Int), (2 : Int)), (1, 3)] = [2, 3] := rfl
  rw [e5] at hw5
  have ht5 := text_any R4 w5 he5.inv _ _ _ hw5 (by intro i hi; match i, hi with | 0, _ => exact ⟨by decide, by decide⟩ | 1, _ => exact ⟨by decide, by decide⟩) (by decide)
  have e6 : (Value.string ⟨(textL [2, 3]).toArray⟩) = .string ⟨#[91, 93]⟩ := rfl
  rw [e6] at ht5
  have HT5 := Lib.hid ht5
  have HE5 := Lib.hid (HE4.out.trans he5)
  have HF5 := Lib.hid (HF4.out.ev he5)
  clear he5 hw5 ht5 e5 e6
  go_wp2_with fail
  refine HT5.out.mono ?_
  rintro e w6 ⟨rfl, he6⟩
  have hf6 := HF5.out.ev he6
  have HE6 := Lib.hid (HE5.out.trans he6)
  have H6 := Lib.hid (word_any R4 w6 he6.inv a4 2 c4 _ hf6 (by omega))
  clear he6 hf6
  have hb1 : ((⟨#[91, 93]⟩ : ByteArray).toList == (⟨#[91, 93]⟩ : ByteArray).toList) = true := by simp
  go_wp2_with fail
  refine H6.out.mono ?_
  rintro e w7 ⟨v7, rfl, he7, hw7⟩
  have e7 : wordL [((0 : Int), (0 : Int)), (1, 1)] = [0, 1] := rfl
  rw [e7] at hw7
  have ht7 := text_any R4 w7 he7.inv _ _ _ hw7 (by intro i hi; match i, hi with | 0, _ => exact ⟨by decide, by decide⟩ | 1, _ => exact ⟨by decide, by decide⟩) (by decide)
  have e8 : (Value.string ⟨(textL [0, 1]).toArray⟩) = .string ⟨#[40, 41]⟩ := rfl
  rw [e8] at ht7
  have HT7 := Lib.hid ht7
  have HE7 := Lib.hid (HE6.out.trans he7)
  clear he7 hw7 ht7 e7 e8
  have hb2 : ((⟨#[40, 41]⟩ : ByteArray).toList == (⟨#[40, 41]⟩ : ByteArray).toList) = true := by simp
  go_wp2_with fail
  refine HT7.out.mono ?_
  rintro e w8 ⟨rfl, he8⟩
  have HE8 := Lib.hid (HE7.out.trans he8)
  clear he8
  go_wp2_with fail
  go_ret
  exact ⟨by simp, R4, HE8.out⟩

end Go.Proofs.Ytnbecpeiodcohaa
