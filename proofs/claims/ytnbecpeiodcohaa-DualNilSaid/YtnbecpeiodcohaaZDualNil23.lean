/- parquetrylaw10: made, awake. Conditions: the bytes lie in memory. perm.One. Conditions: not below nought, not too great. Package dual at no map; parquetrylaw10.DualNil, the walk: it answers true. Conditions: none. -/
import Derived.Test.YtnbecpeiodcohaaZDualNil13
import Derived.Test.YtnbecpeiodcohaaZDualNil22
namespace Go.Proofs.Ytnbecpeiodcohaa
open Go.RowKit
set_option linter.unusedVariables false

set_option maxRecDepth 100000 in
set_option maxHeartbeats 2000000 in
theorem made10_any (R : Reg) (w : World) (hI : Inv R w) (n rt ln : Nat) (hn : n ≤ 255) (hr : rt ≤ 255) (hl : ln ≤ 255) (v : Value) (bs : List Nat) (hv : FreeB R w v bs) :
    Calls Try.prog 42 #[.int .u8 (n : Int), v, .int .u8 (rt : Int), .int .u8 (ln : Int)] w (MadeMap R w (mixL (2 * (n % 12)) bs) (anyRoot (n % 12) rt) ((ln % 3 : Nat) : Int)) := by
  have he0 : Ev R w R (w.alloc (.cells #[.slice none 0 0, .int .i64 0, .int .i64 0] 27)) := (Ev.refl hI).alloc _
  have hm := rany_any R _ he0.inv (n % 12) (by omega) v bs (hv.ev he0) rt hr
  have hok := made_ok (n % 12) rt bs (ln % 3) (by omega) (by omega)
  have hS := mixL_perm (2 * (n % 12)) bs
  rw [show ((n % 12 : Nat) : Int) = (n : Int) % 12 from by omega] at hm
  obtain ⟨S, hSe⟩ : ∃ S, mixL (2 * (n % 12)) bs = S := ⟨_, rfl⟩
  obtain ⟨r, hre⟩ : ∃ r, anyRoot (n % 12) rt = r := ⟨_, rfl⟩
  rw [show ((ln % 3 : Nat) : Int) = (ln : Int) % 3 from by omega] at hok ⊢
  rw [hSe, hre] at hm hok ⊢
  rw [hSe] at hS
  have HM := Lib.hid hm
  have HOK := Lib.hid hok
  have HS := Lib.hid hS
  have HE0 := Lib.hid he0
  have HI := Lib.hid hI
  obtain ⟨a0, c0, rfl, _⟩ := hv
  clear hm he0 hI hSe hre hok hS
  go_enter Try.func42, Try.ntmps42
  go_wp2_with fail
  refine HM.out.mono ?_
  rintro e w1 ⟨a1, c1, rfl, he1, ho1⟩
  unfold refV
  have hz := he1.size
  simp only [World.size_alloc] at hz
  have hc0 : w1.heap[w.heap.size]? = some (.cells #[.slice none 0 0, .int .i64 0, .int .i64 0] 27 (0, 0)) := by
    rw [he1.block _ (by simp) (HI.out.none_of_ge (Nat.le_refl _))]
    exact heap_alloc_new w _
  have he2 := (HE0.out.trans he1).alloc (.cells #[.slice a1 S.length c1, .int .i64 r, .int .i64 ((ln : Int) % 3)] 27)
  have ho2 := ho1.alloc (.cells #[.slice a1 S.length c1, .int .i64 r, .int .i64 ((ln : Int) % 3)] 27)
  have hnew := new_yes R _ he2.inv (.slice a1 S.length c1) S ho2.free r ((ln : Int) % 3) HS.out HOK.out
  have HN := Lib.hid hnew
  have HE1 := Lib.hid (HE0.out.trans he1)
  have HE2 := Lib.hid he2
  have HO2 := Lib.hid ho2
  have HC0 := Lib.hid hc0
  clear he1 ho1 he2 ho2 hnew hc0
  go_wp2_with fail
  refine HN.out.mono ?_
  rintro e w2 ⟨p, R2, rfl, he3, hm3⟩
  have hsz1 : w1.heap.size + 1 ≤ w2.heap.size := by have := he3.size; simpa using this
  have hb1 : w2.heap[w1.heap.size]? = some (.cells #[.slice a1 S.length c1, .int .i64 r, .int .i64 ((ln : Int) % 3)] 27 (0, 0)) := by
    rw [he3.block _ (by simp) (HE1.out.inv.none_of_ge (Nat.le_refl _))]
    exact heap_alloc_new w1 _
  have hb0 : w2.heap[w.heap.size]? = some (.cells #[.slice none 0 0, .int .i64 0, .int .i64 0] 27 (0, 0)) := by
    rw [he3.block _ (by simp; omega) (HI.out.none_of_ge (Nat.le_refl _)), Below.heap_alloc _ _ _ (by omega)]
    exact HC0.out
  have k0 : w2.cell? ⟨w1.heap.size, 0, none⟩ = some (.slice a1 S.length c1) := by simp [World.cell?, hb1]
  have k1 : w2.cell? ⟨w1.heap.size, 1, none⟩ = some (.int .i64 r) := by simp [World.cell?, hb1]
  have k2 : w2.cell? ⟨w1.heap.size, 2, none⟩ = some (.int .i64 ((ln : Int) % 3)) := by simp [World.cell?, hb1]
  have j0 : w2.cell? ⟨w.heap.size, 0, none⟩ = some (.slice none 0 0) := by simp [World.cell?, hb0]
  have j1 : w2.cell? ⟨w.heap.size, 1, none⟩ = some (.int .i64 0) := by simp [World.cell?, hb0]
  have j2 : w2.cell? ⟨w.heap.size, 2, none⟩ = some (.int .i64 0) := by simp [World.cell?, hb0]
  have z0 : ∀ o, w2.frozen? ⟨w.heap.size, o, none⟩ = false := fun o => by simp [World.frozen?, hb0]
  have HB0 := Lib.hid hb0
  have HE3 := Lib.hid he3
  have HM3 := Lib.hid hm3
  have hn2 : R2 w.heap.size = none := he3.free _ (by simp; omega) (HI.out.none_of_ge (Nat.le_refl _))
  have HN2 := Lib.hid hn2
  clear hb0 hb1 he3 hm3 hn2
  go_wp2_with fail
  go_region
  all_goals go_wp2_with fail
  have hb3 := set3 (x := .slice a1 S.length c1) (y := .int .i64 r) (z := .int .i64 ((ln : Int) % 3)) HB0.out
  have w0 : ((((w2.setCell ⟨w.heap.size, 0, none⟩ (.slice a1 S.length c1)).setCell ⟨w.heap.size, 1, none⟩ (.int .i64 r)).setCell ⟨w.heap.size, 2, none⟩ (.int .i64 ((ln : Int) % 3))).drew).cell? ⟨w.heap.size, 0, none⟩ = some (.slice a1 S.length c1) := by rw [World.cell?_drew, cells_at hb3]; rfl
  have w1' : ((((w2.setCell ⟨w.heap.size, 0, none⟩ (.slice a1 S.length c1)).setCell ⟨w.heap.size, 1, none⟩ (.int .i64 r)).setCell ⟨w.heap.size, 2, none⟩ (.int .i64 ((ln : Int) % 3))).drew).cell? ⟨w.heap.size, 1, none⟩ = some (.int .i64 r) := by rw [World.cell?_drew, cells_at hb3]; rfl
  have w2' : ((((w2.setCell ⟨w.heap.size, 0, none⟩ (.slice a1 S.length c1)).setCell ⟨w.heap.size, 1, none⟩ (.int .i64 r)).setCell ⟨w.heap.size, 2, none⟩ (.int .i64 ((ln : Int) % 3))).drew).cell? ⟨w.heap.size, 2, none⟩ = some (.int .i64 ((ln : Int) % 3)) := by rw [World.cell?_drew, cells_at hb3]; rfl
  refine bodyPost_ret (v := .tuple #[p, refV (.slice a1 S.length c1) r ((ln : Int) % 3)]) ?_ rfl ⟨p, a1, c1, R2, rfl, ?_, HM3.out, ?_⟩
  · simp only [World.cell?_drew] at w0 w1' w2'
    simp [results, Try.results42, go_sem, w0, w1', w2', refV]
  · exact ((((HE2.out.trans HE3.out).setCell (Nat.le_refl _) HN2.out _).setCell (Nat.le_refl _) HN2.out _).setCell (Nat.le_refl _) HN2.out _).drew
  · have ho3 := HO2.out.ev HE3.out
    have hne : ∀ (o : Nat), (Value.slice a1 S.length c1).ownBlock ≠ some (⟨w.heap.size, o, none⟩ : Addr).block := fun o e => by
      have h : w.heap.size + 1 ≤ w.heap.size := by have := (ho3.lt _ e).1; simpa using this
      omega
    exact ((((ho3.setCell (hne 0) _).setCell (hne 1) _).setCell (hne 2) _).drew).free

theorem d10a : (sizesL (phiL [0, 1])).length = 1 := by decide
theorem d10b : (sizesL (phiL (phiL [0, 1]))).length = 2 := by decide
theorem d10c : cutLone [0, 1] 0 = 2 := by decide
theorem d10d : shrLone [0, 1] 0 = 1 := by decide
theorem d10e : nth (namesL [0, 1]) 0 ≠ nth (namesL [0, 1]) 1 := by decide

set_option maxRecDepth 100000 in
set_option maxHeartbeats 2000000 in
theorem awake10_any (R : Reg) (w : World) (hI : Inv R w) : Calls Try.prog 41 #[] w (RetTrue R w) := by
  have hok1 : MapOk [0, 1] 0 0 := by unfold MapOk; simp
  have h1 := new_yes R _ (hI.alloc _) _ [0, 1] (FreeI.two hI 0 1) 0 0 perm01 hok1
  have H1 := Lib.hid h1
  have HI := Lib.hid hI
  clear h1 hI hok1
  go_enter Try.func41, Try.ntmps41
  go_wp2_with fail
  refine H1.out.mono ?_
  rintro e w1 ⟨p, R1, rfl, he1, hp⟩
  have he1' := ((Ev.refl HI.out).alloc (.cells #[.int .i64 0, .int .i64 1] 3)).trans he1
  have HDu := Lib.hid (dual_any R1 w1 he1.inv p [0, 1] 0 0 hp)
  have HP := Lib.hid hp
  have HE1 := Lib.hid he1'
  clear he1 he1' hp
  go_wp2_with fail
  refine HDu.out.mono ?_
  rintro e w2 ⟨d, R2, rfl, he2, hd⟩
  have hc := cut_any R2 w2 he2.inv p [0, 1] 0 0 (he2.map HP.out) 0 (by decide) (by decide)
  rw [d10c] at hc
  have HCu := Lib.hid hc
  have HE2 := Lib.hid (HE1.out.trans he2)
  have HD2 := Lib.hid hd
  have HP2 := Lib.hid (he2.map HP.out)
  clear he2 hd hc HP HE1
  go_wp2_with fail
  refine HCu.out.mono ?_
  rintro e w3 ⟨c, R3, rfl, he3, hc⟩
  have hs := shrink_any R3 w3 he3.inv p [0, 1] 0 0 (he3.map HP2.out) 0 (by decide) (by decide) d10e
  rw [d10d] at hs
  have HSh := Lib.hid hs
  have HE3 := Lib.hid (HE2.out.trans he3)
  have HC3 := Lib.hid hc
  have HD3 := Lib.hid (he3.map HD2.out)
  clear he3 hc hs HP2 HE2 HD2
  go_wp2_with fail
  refine HSh.out.mono ?_
  rintro e w4 ⟨q, R4, rfl, he4, hq⟩
  have hv := vertices_any R4 w4 he4.inv d (phiL [0, 1]) 0 0 (he4.map HD3.out)
  rw [d10a] at hv
  have HV := Lib.hid hv
  have HE4 := Lib.hid (HE3.out.trans he4)
  have HC4 := Lib.hid (he4.map HC3.out)
  have HD4 := Lib.hid (he4.map HD3.out)
  have HQ4 := Lib.hid hq
  clear he4 hv hq HE3 HC3 HD3
  go_wp2_with fail
  refine HV.out.mono ?_
  rintro e w5 ⟨rfl, R5, he5⟩
  have hb := borders_any R5 w5 he5.inv d (phiL [0, 1]) 0 0 (he5.map HD4.out)
  rw [d10b] at hb
  have HB := Lib.hid hb
  have HE5 := Lib.hid (HE4.out.trans he5)
  have HC5 := Lib.hid (he5.map HC4.out)
  have HQ5 := Lib.hid (he5.map HQ4.out)
  clear he5 hb
  go_wp2_with fail
  refine HB.out.mono ?_
  rintro e w6 ⟨rfl, R6, he6⟩
  have HL1 := Lib.hid (lone_any R6 w6 he6.inv c _ _ _ (he6.map HC5.out))
  have HL2 := Lib.hid (lone_any R6 w6 he6.inv q _ _ _ (he6.map HQ5.out))
  have HE6 := Lib.hid (HE5.out.trans he6)
  clear he6
  go_wp2_with fail
  refine HL1.out.mono ?_
  rintro e w' ⟨rfl, rfl⟩
  go_wp2_with fail
  refine HL2.out.mono ?_
  rintro e w' ⟨rfl, rfl⟩
  go_wp2_with fail
  go_ret
  exact ⟨rfl, R6, HE6.out⟩

end Go.Proofs.Ytnbecpeiodcohaa

namespace Go.Proofs.Ytnbecpeiodcohaa
open Go.RowKit
set_option linter.unusedVariables false


theorem Ev.regPerm {R R1 : Reg} {w w1 : World} {B b : Nat} {E T : TypeId} {v : Value} {S : List Nat} (he : Ev R w R1 w1) (hB : w.heap.size ≤ B) (ho : OwnI R1 B E w1 v (toI S)) (hS : IsPerm S) (hn : S.length ≤ 4194304)
    (hb : w1.heap[b]? = some (.cells #[v, .int .u32 0, .int .i32 0, .int .u32 0, .slice none 0 0] T (0, 0))) (hbw : w.heap.size ≤ b) (hbn : R1 b = none) (hd : v.ownBlock ≠ some b) :
    ∃ R2, Ev R w R2 w1 ∧ PermAt R2 (.pointer (some ⟨b, 0, none⟩)) S := by
  obtain ⟨R2, he2, hf, hk, hn2⟩ := ho.fix he hB
  exact ⟨R2.put b (.inr (.inl S)), he2.put _ hbw (hn2 b hbn hd) ⟨hS, hn, v, T, 0, nilS, hb, hf, Or.inl ⟨rfl, rfl⟩⟩, b, rfl, Reg.put_same _ _ _⟩

def RetPm (R : Reg) (w : World) (S : List Nat) (e : Ending) (w' : World) : Prop :=
  ∃ p R', e = .returned p ∧ Ev R w R' w' ∧ PermAt R' p S

set_option maxRecDepth 100000 in
set_option maxHeartbeats 2000000 in
theorem one_any (R : Reg) (w : World) (hI : Inv R w) (n : Nat) (hn : n ≤ 1000000) : Calls Try.prog 55 #[.int .i64 (n : Int)] w (RetPm R w (List.range n)) := by
  have HI := Lib.hid hI
  clear hI
  have hmx : max (n : Int) 0 = (n : Int) := by omega
  obtain ⟨T, hT⟩ : ∃ T : TypeId, T = 141 := ⟨_, rfl⟩
  go_enter Try.func55, Try.ntmps55
  go_wp2_with fail
  obtain ⟨b, hb⟩ : ∃ b, w.heap.size = b := ⟨_, rfl⟩
  have hE0 : Ev R w R (w.alloc (.cells #[.slice none 0 0, .int .u32 0, .int .i32 0, .int .u32 0, .slice none 0 0] T)) := (Ev.refl HI.out).alloc _
  have hB0 : (w.alloc (.cells #[.slice none 0 0, .int .u32 0, .int .i32 0, .int .u32 0, .slice none 0 0] T)).heap[b]? = some (.cells #[.slice none 0 0, .int .u32 0, .int .i32 0, .int .u32 0, .slice none 0 0] T (0, 0)) := by rw [← hb]; exact heap_alloc_new w _
  have hbn : R b = none := HI.out.none_of_ge (by omega)
  have HE0 := Lib.hid hE0
  have HB0 := Lib.hid hB0
  have HBn := Lib.hid hbn
  have HBb := Lib.hid hb
  rw [← hT, hb]
  clear hE0 hB0 hbn hb
  go_loopg [9] n (fun g v9 wr => ∃ (i : Nat) (a : Option Addr) (l c : Nat), i ≤ n ∧ n - i ≤ g ∧ v9 = .int .i64 (i : Int) ∧ Ev R w R wr ∧ wr.heap[b]? = some (.cells #[.slice a l c, .int .u32 0, .int .i32 0, .int .u32 0, .slice none 0 0] T (0, 0)) ∧ OwnI R w.heap.size 3 wr (.slice a l c) (toI (List.range i)) ∧ (Value.slice a l c).ownBlock ≠ some b)
  case atStart => exact ⟨0, none, 0, 0, Nat.zero_le _, by omega, rfl, HE0.out, HB0.out, OwnI.nil _ _ _ _, by simp [Value.ownBlock]⟩
  case round =>
    obtain ⟨i, a, l, c, hin, hg, rfl, he, hbl, ho, hds⟩ := hrel
    have HE := Lib.hid he
    have HO := Lib.hid ho
    have HD := Lib.hid hds
    have HBl := Lib.hid hbl
    have hbz := lt_of_block hbl
    clear he ho hds
    by_cases hil : i < n
    · have c0 : wr.cell? ⟨b, 0, none⟩ = some (.slice a l c) := cells_at hbl 0
      have HEa := Lib.hid (HE.out.alloc (.cells #[.int .i64 (i : Int)] 3))
      have HOa := Lib.hid (HO.out.alloc (.cells #[.int .i64 (i : Int)] 3))
      have HBa : Hid ((wr.alloc (.cells #[.int .i64 (i : Int)] 3)).heap[b]? = _) := Lib.hid ((Below.heap_alloc _ _ _ hbz).trans HBl.out)
      clear hbl
      go_wp2_with (at_builtin; refine wpList_app_int (R := R) (B := w.heap.size) rfl _ _ rfl HOa.out rfl ⟨wr.heap.size, 0, none⟩ 1 (i : Int) ?a0 ?a1 ?a2 ?a3 ?a4 ?_)
      case a0 => first | rfl | simp
      case a1 => first | rfl | simp
      case a2 => rw [toI_length, List.length_range]; omega
      case a3 => have := HE.out.size; simp; omega
      case a4 => exact fun q hq => HEa.out.inv.none_of_ge (by simp at hq ⊢; omega)
      intro v8 w6 ho8 hg6 hs6
      obtain ⟨a8, c8, rfl, _⟩ := ho8.ints.open
      rw [← toI_range_succ] at ho8 hs6 ⊢
      obtain ⟨l8, hl8⟩ : ∃ l, (toI (List.range (i + 1))).length = l := ⟨_, rfl⟩
      rw [hl8] at ho8 hs6 ⊢
      have hb6 := (hg6.block b (lt_of_block HBa.out) (fun e => HD.out e.symm)).trans HBa.out
      have hd6 : (Value.slice a8 l8 c8).ownBlock ≠ some b := fun h => by
        rcases hs6 b h with e | e
        · exact HD.out e
        · first | omega | (simp at e; omega)
      have hn6 : w6.cell? ⟨b, 0, none⟩ = some (.slice a l c) := cells_at hb6 0
      have hz6 : w6.frozen? ⟨b, 0, none⟩ = false := by simp [World.frozen?, hb6]
      have hb7 := heap_setCell_same w6 b 0 _ T (.slice a8 l8 c8) hb6
      have he7 := (HEa.out.app HOa.out (Nat.le_refl _) hg6).setCell (p := ⟨b, 0, none⟩) (by show w.heap.size ≤ b; rw [HBb.out]; exact Nat.le_refl _) HBn.out (.slice a8 l8 c8)
      have ho7 := ho8.setCell (a := ⟨b, 0, none⟩) hd6 (.slice a8 l8 c8)
      have HB7 := Lib.hid hb7
      have HE7 := Lib.hid he7
      have HO7 := Lib.hid ho7
      have HD7 := Lib.hid hd6
      clear hl8 ho8 hg6 hs6 hb6 hb7 he7 ho7 hd6
      go_wp2_with fail
      go_roundg (n - (i + 1))
      case measure => omega
      case rel => exact ⟨i + 1, a8, l8, c8, by omega, by omega, by go_num, HE7.out, HB7.out, HO7.out, HD7.out⟩
    · obtain rfl : i = n := by omega
      obtain ⟨R2, he2, hp2⟩ := HE.out.regPerm (Nat.le_refl _) HO.out (range_perm i) (by rw [List.length_range]; omega) hbl (by rw [HBb.out]; exact Nat.le_refl _) HBn.out HD.out
      have HE2 := Lib.hid he2
      have HP2 := Lib.hid hp2
      clear hbl he2 hp2
      go_wp2_with fail
      go_ret
      exact ⟨_, R2, rfl, HE2.out, HP2.out⟩

end Go.Proofs.Ytnbecpeiodcohaa

namespace Go.Proofs.Ytnbecpeiodcohaa
open Go.RowKit
set_option linter.unusedVariables false

theorem relabel_nil1 (w : World) (v : Option Addr) : Calls Try.prog 54 #[.pointer none, .pointer v] w fun e w' => e = .returned (.tuple #[.pointer none, .int .i64 2]) ∧ w = w' := by
  go_enter Try.func54, Try.ntmps54
  go_wp2_with fail
  go_ret2
  exact ⟨rfl, rfl⟩
theorem relabel_nil2 (w : World) (b : Addr) : Calls Try.prog 54 #[.pointer (some b), .pointer none] w fun e w' => e = .returned (.tuple #[.pointer none, .int .i64 2]) ∧ w = w' := by
  go_enter Try.func54, Try.ntmps54
  go_wp2_with fail
  go_ret2
  exact ⟨rfl, rfl⟩
theorem dof_nil (w : World) (d : Int) : Calls Try.prog 94 #[.pointer none, .int .i64 d] w fun e w' => e = .returned (.tuple #[.pointer none, .int .i64 2]) ∧ w = w' := by
  go_enter Try.func94, Try.ntmps94
  go_wp2_with fail
  go_ret2
  exact ⟨rfl, rfl⟩
theorem dcut_nil (w : World) (d : Int) : Calls Try.prog 47 #[.pointer none, .int .i64 d] w fun e w' => e = .returned (.tuple #[.pointer none, .int .i64 2]) ∧ w = w' := by
  have HO := Lib.hid (dof_nil w d)
  go_enter Try.func47, Try.ntmps47
  go_wp2_with fail
  refine HO.out.mono ?_
  rintro e w' ⟨rfl, rfl⟩
  go_wp2_with fail
  go_ret2
  exact ⟨rfl, rfl⟩
theorem dshrink_nil (w : World) (d : Int) : Calls Try.prog 46 #[.pointer none, .int .i64 d] w fun e w' => e = .returned (.tuple #[.pointer none, .int .i64 2]) ∧ w = w' := by
  have HO := Lib.hid (dof_nil w d)
  go_enter Try.func46, Try.ntmps46
  go_wp2_with fail
  refine HO.out.mono ?_
  rintro e w' ⟨rfl, rfl⟩
  go_wp2_with fail
  go_ret2
  exact ⟨rfl, rfl⟩

set_option maxRecDepth 100000 in
set_option maxHeartbeats 2000000 in
theorem dualNil_walk (w : World) (d : Int) : Calls Try.prog 10 #[.int .i64 d] w (RetTrue noReg w) := by
  have HA := Lib.hid (awake10_any noReg w (Inv.noReg w))
  have hnot := not_run
  have hok1 : MapOk [1, 0] 0 0 := by unfold MapOk; simp
  have HOk := Lib.hid hok1
  clear hok1
  go_enter Try.func10, Try.ntmps10
  go_wp2_with fail
  refine HA.out.mono ?_
  rintro e w1 ⟨rfl, R1, he1⟩
  have h1 := new_yes R1 _ (he1.inv.alloc _) _ [1, 0] (FreeI.two he1.inv 1 0) 0 0 perm10 HOk.out
  have H1 := Lib.hid h1
  have HE1 := Lib.hid he1
  clear he1 h1
  go_wp2_with fail
  refine H1.out.mono ?_
  rintro e w2 ⟨p, R2, rfl, he2, hp⟩
  obtain ⟨b, rfl, hb⟩ := hp
  have HE2 := Lib.hid ((HE1.out.alloc (.cells #[.int .i64 1, .int .i64 0] 3)).trans he2)
  have HO := Lib.hid (one_any R2 w2 he2.inv 0 (by decide))
  clear he2 hb
  go_wp2_with fail
  refine HO.out.mono ?_
  rintro e w3 ⟨q, R3, rfl, he3, hq⟩
  obtain ⟨b3, rfl, hb3⟩ := hq
  have HE3 := Lib.hid (HE2.out.trans he3)
  clear he3 hb3
  go_wp2_with fail
  refine (relabel_nil1 w3 _).mono ?_
  rintro e w' ⟨rfl, rfl⟩
  go_wp2_with fail
  refine (relabel_nil2 w3 _).mono ?_
  rintro e w' ⟨rfl, rfl⟩
  go_wp2_with fail
  refine (dcut_nil w3 d).mono ?_
  rintro e w' ⟨rfl, rfl⟩
  go_wp2_with fail
  refine (dshrink_nil w3 d).mono ?_
  rintro e w' ⟨rfl, rfl⟩
  go_wp2_with fail
  refine (dual_nil w3).mono ?_
  rintro e w' ⟨rfl, rfl⟩
  go_wp2_with fail
  refine (mirror_nil w3).mono ?_
  rintro e w' ⟨rfl, rfl⟩
  go_wp2_with fail
  go_ret
  exact ⟨rfl, R3, HE3.out⟩

end Go.Proofs.Ytnbecpeiodcohaa
