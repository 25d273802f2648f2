/- parquetrylaw10: made, awake. Conditions: the bytes lie in memory. perm.One. Conditions: not below nought, not too great. Package dual at no map; parquetrylaw10.DualNil, the walk: it answers true. Conditions: none. The dual has the same parts, of the same genus; the dual's dual is the map, the mirror's mirror too. Conditions: none. Shrunk in the map, an edge is cut in the dual. Conditions: none. Edges are cut in any order; cut, a map has as many vertices, those that are left bare counted. Conditions: none. Cut, a map has as many vertices, those that are left bare counted. Conditions: none. Shrunk, an edge of two vertices leaves one vertex less, and as many faces; those that are left bare counted. Conditions: none. A turn by other names. Conditions: none. -/
import Derived.Test.YtnbecpeiodcohaaZDualCuts13
import Derived.Test.YtnbecpeiodcohaaZDualCuts22
import Derived.Test.YtnbecpeiodcohaaZDualCuts21
namespace Go.Proofs.Ytnbecpeiodcohaa
open Go.RowKit
set_option linter.unusedVariables false

set_option maxRecDepth 100000 in
set_option maxHeartbeats 2000000 in
theorem made10_any (R : Reg) (w : World) (hI : Inv R w) (n rt ln : Nat) (hn : n ≤ 255) (hr : rt ≤ 255) (hl : ln ≤ 255) (v : Value) (bs : List Nat) (hv : FreeB R w v bs) :
    Calls Try.prog 42 #[.int .u8 (n : Int), v, .int .u8 (rt : Int), .int .u8 (ln : Int)] w (MadeMap R w (mixL (2 * (n % 12)) bs) (anyRoot (n % 12) rt) ((ln % 3 : Nat) : Int)) := by
  have he0 : Ev R w R (w.alloc (.cells #[.slice none 0 0, .int .i64 0, .int .i64 0] 27)) := (Ev.refl hI).alloc _
  have hm := rany_any R _ he0.inv (n % 12) (by omega) v bs (hv.ev he0) rt hr
  have hok := made_ok (n % 12) rt bs (ln % 3) (by omega) (by omega)
  have hS := mixL_perm (2 * (n % 12)) bs
  rw [show ((n % 12 : Nat) : Int) = (n : Int) % 12 from by omega] at hm
  obtain ⟨S, hSe⟩ : ∃ S, mixL (2 * (n % 12)) bs = S := ⟨_, rfl⟩
  obtain ⟨r, hre⟩ : ∃ r, anyRoot (n % 12) rt = r := ⟨_, rfl⟩
  rw [show ((ln % 3 : Nat) : Int) = (ln : Int) % 3 from by omega] at hok ⊢
  rw [hSe, hre] at hm hok ⊢
  rw [hSe] at hS
  have HM := Lib.hid hm
  have HOK := Lib.hid hok
  have HS := Lib.hid hS
  have HE0 := Lib.hid he0
  have HI := Lib.hid hI
  obtain ⟨a0, c0, rfl, _⟩ := hv
  clear hm he0 hI hSe hre hok hS
  go_enter Try.func42, Try.ntmps42
  go_wp2_with fail
  refine HM.out.mono ?_
  rintro e w1 ⟨a1, c1, rfl, he1, ho1⟩
  unfold refV
  have hz := he1.size
  simp only [World.size_alloc] at hz
  have hc0 : w1.heap[w.heap.size]? = some (.cells #[.slice none 0 0, .int .i64 0, .int .i64 0] 27 (0, 0)) := by
    rw [he1.block _ (by simp) (HI.out.none_of_ge (Nat.le_refl _))]
    exact heap_alloc_new w _
  have he2 := (HE0.out.trans he1).alloc (.cells #[.slice a1 S.length c1, .int .i64 r, .int .i64 ((ln : Int) % 3)] 27)
  have ho2 := ho1.alloc (.cells #[.slice a1 S.length c1, .int .i64 r, .int .i64 ((ln : Int) % 3)] 27)
  have hnew := new_yes R _ he2.inv (.slice a1 S.length c1) S ho2.free r ((ln : Int) % 3) HS.out HOK.out
  have HN := Lib.hid hnew
  have HE1 := Lib.hid (HE0.out.trans he1)
  have HE2 := Lib.hid he2
  have HO2 := Lib.hid ho2
  have HC0 := Lib.hid hc0
  clear he1 ho1 he2 ho2 hnew hc0
  go_wp2_with fail
  refine HN.out.mono ?_
  rintro e w2 ⟨p, R2, rfl, he3, hm3⟩
  have hsz1 : w1.heap.size + 1 ≤ w2.heap.size := by have := he3.size; simpa using this
  have hb1 : w2.heap[w1.heap.size]? = some (.cells #[.slice a1 S.length c1, .int .i64 r, .int .i64 ((ln : Int) % 3)] 27 (0, 0)) := by
    rw [he3.block _ (by simp) (HE1.out.inv.none_of_ge (Nat.le_refl _))]
    exact heap_alloc_new w1 _
  have hb0 : w2.heap[w.heap.size]? = some (.cells #[.slice none 0 0, .int .i64 0, .int .i64 0] 27 (0, 0)) := by
    rw [he3.block _ (by simp; omega) (HI.out.none_of_ge (Nat.le_refl _)), Below.heap_alloc _ _ _ (by omega)]
    exact HC0.out
  have k0 : w2.cell? ⟨w1.heap.size, 0, none⟩ = some (.slice a1 S.length c1) := by simp [World.cell?, hb1]
  have k1 : w2.cell? ⟨w1.heap.size, 1, none⟩ = some (.int .i64 r) := by simp [World.cell?, hb1]
  have k2 : w2.cell? ⟨w1.heap.size, 2, none⟩ = some (.int .i64 ((ln : Int) % 3)) := by simp [World.cell?, hb1]
  have j0 : w2.cell? ⟨w.heap.size, 0, none⟩ = some (.slice none 0 0) := by simp [World.cell?, hb0]
  have j1 : w2.cell? ⟨w.heap.size, 1, none⟩ = some (.int .i64 0) := by simp [World.cell?, hb0]
  have j2 : w2.cell? ⟨w.heap.size, 2, none⟩ = some (.int .i64 0) := by simp [World.cell?, hb0]
  have z0 : ∀ o, w2.frozen? ⟨w.heap.size, o, none⟩ = false := fun o => by simp [World.frozen?, hb0]
  have HB0 := Lib.hid hb0
  have HE3 := Lib.hid he3
  have HM3 := Lib.hid hm3
  have hn2 : R2 w.heap.size = none := he3.free _ (by simp; omega) (HI.out.none_of_ge (Nat.le_refl _))
  have HN2 := Lib.hid hn2
  clear hb0 hb1 he3 hm3 hn2
  go_wp2_with fail
  go_region
  all_goals go_wp2_with fail
  have hb3 := set3 (x := .slice a1 S.length c1) (y := .int .i64 r) (z := .int .i64 ((ln : Int) % 3)) HB0.out
  have w0 : ((((w2.setCell ⟨w.heap.size, 0, none⟩ (.slice a1 S.length c1)).setCell ⟨w.heap.size, 1, none⟩ (.int .i64 r)).setCell ⟨w.heap.size, 2, none⟩ (.int .i64 ((ln : Int) % 3))).drew).cell? ⟨w.heap.size, 0, none⟩ = some (.slice a1 S.length c1) := by rw [World.cell?_drew, cells_at hb3]; rfl
  have w1' : ((((w2.setCell ⟨w.heap.size, 0, none⟩ (.slice a1 S.length c1)).setCell ⟨w.heap.size, 1, none⟩ (.int .i64 r)).setCell ⟨w.heap.size, 2, none⟩ (.int .i64 ((ln : Int) % 3))).drew).cell? ⟨w.heap.size, 1, none⟩ = some (.int .i64 r) := by rw [World.cell?_drew, cells_at hb3]; rfl
  have w2' : ((((w2.setCell ⟨w.heap.size, 0, none⟩ (.slice a1 S.length c1)).setCell ⟨w.heap.size, 1, none⟩ (.int .i64 r)).setCell ⟨w.heap.size, 2, none⟩ (.int .i64 ((ln : Int) % 3))).drew).cell? ⟨w.heap.size, 2, none⟩ = some (.int .i64 ((ln : Int) % 3)) := by rw [World.cell?_drew, cells_at hb3]; rfl
  refine bodyPost_ret (v := .tuple #[p, refV (.slice a1 S.length c1) r ((ln : Int) % 3)]) ?_ rfl ⟨p, a1, c1, R2, rfl, ?_, HM3.out, ?_⟩
  · simp only [World.cell?_drew] at w0 w1' w2'
    simp [results, Try.results42, go_sem, w0, w1', w2', refV]
  · exact ((((HE2.out.trans HE3.out).setCell (Nat.le_refl _) HN2.out _).setCell (Nat.le_refl _) HN2.out _).setCell (Nat.le_refl _) HN2.out _).drew
  · have ho3 := HO2.out.ev HE3.out
    have hne : ∀ (o : Nat), (Value.slice a1 S.length c1).ownBlock ≠ some (⟨w.heap.size, o, none⟩ : Addr).block := fun o e => by
      have h : w.heap.size + 1 ≤ w.heap.size := by have := (ho3.lt _ e).1; simpa using this
      omega
    exact ((((ho3.setCell (hne 0) _).setCell (hne 1) _).setCell (hne 2) _).drew).free

theorem d10a : (sizesL (phiL [0, 1])).length = 1 := by decide
theorem d10b : (sizesL (phiL (phiL [0, 1]))).length = 2 := by decide
theorem d10c : cutLone [0, 1] 0 = 2 := by decide
theorem d10d : shrLone [0, 1] 0 = 1 := by decide
theorem d10e : nth (namesL [0, 1]) 0 ≠ nth (namesL [0, 1]) 1 := by decide

set_option maxRecDepth 100000 in
set_option maxHeartbeats 2000000 in
theorem awake10_any (R : Reg) (w : World) (hI : Inv R w) : Calls Try.prog 41 #[] w (RetTrue R w) := by
  have hok1 : MapOk [0, 1] 0 0 := by unfold MapOk; simp
  have h1 := new_yes R _ (hI.alloc _) _ [0, 1] (FreeI.two hI 0 1) 0 0 perm01 hok1
  have H1 := Lib.hid h1
  have HI := Lib.hid hI
  clear h1 hI hok1
  go_enter Try.func41, Try.ntmps41
  go_wp2_with fail
  refine H1.out.mono ?_
  rintro e w1 ⟨p, R1, rfl, he1, hp⟩
  have he1' := ((Ev.refl HI.out).alloc (.cells #[.int .i64 0, .int .i64 1] 3)).trans he1
  have HDu := Lib.hid (dual_any R1 w1 he1.inv p [0, 1] 0 0 hp)
  have HP := Lib.hid hp
  have HE1 := Lib.hid he1'
  clear he1 he1' hp
  go_wp2_with fail
  refine HDu.out.mono ?_
  rintro e w2 ⟨d, R2, rfl, he2, hd⟩
  have hc := cut_any R2 w2 he2.inv p [0, 1] 0 0 (he2.map HP.out) 0 (by decide) (by decide)
  rw [d10c] at hc
  have HCu := Lib.hid hc
  have HE2 := Lib.hid (HE1.out.trans he2)
  have HD2 := Lib.hid hd
  have HP2 := Lib.hid (he2.map HP.out)
  clear he2 hd hc HP HE1
  go_wp2_with fail
  refine HCu.out.mono ?_
  rintro e w3 ⟨c, R3, rfl, he3, hc⟩
  have hs := shrink_any R3 w3 he3.inv p [0, 1] 0 0 (he3.map HP2.out) 0 (by decide) (by decide) d10e
  rw [d10d] at hs
  have HSh := Lib.hid hs
  have HE3 := Lib.hid (HE2.out.trans he3)
  have HC3 := Lib.hid hc
  have HD3 := Lib.hid (he3.map HD2.out)
  clear he3 hc hs HP2 HE2 HD2
  go_wp2_with fail
  refine HSh.out.mono ?_
  rintro e w4 ⟨q, R4, rfl, he4, hq⟩
  have hv := vertices_any R4 w4 he4.inv d (phiL [0, 1]) 0 0 (he4.map HD3.out)
  rw [d10a] at hv
  have HV := Lib.hid hv
  have HE4 := Lib.hid (HE3.out.trans he4)
  have HC4 := Lib.hid (he4.map HC3.out)
  have HD4 := Lib.hid (he4.map HD3.out)
  have HQ4 := Lib.hid hq
  clear he4 hv hq HE3 HC3 HD3
  go_wp2_with fail
  refine HV.out.mono ?_
  rintro e w5 ⟨rfl, R5, he5⟩
  have hb := borders_any R5 w5 he5.inv d (phiL [0, 1]) 0 0 (he5.map HD4.out)
  rw [d10b] at hb
  have HB := Lib.hid hb
  have HE5 := Lib.hid (HE4.out.trans he5)
  have HC5 := Lib.hid (he5.map HC4.out)
  have HQ5 := Lib.hid (he5.map HQ4.out)
  clear he5 hb
  go_wp2_with fail
  refine HB.out.mono ?_
  rintro e w6 ⟨rfl, R6, he6⟩
  have HL1 := Lib.hid (lone_any R6 w6 he6.inv c _ _ _ (he6.map HC5.out))
  have HL2 := Lib.hid (lone_any R6 w6 he6.inv q _ _ _ (he6.map HQ5.out))
  have HE6 := Lib.hid (HE5.out.trans he6)
  clear he6
  go_wp2_with fail
  refine HL1.out.mono ?_
  rintro e w' ⟨rfl, rfl⟩
  go_wp2_with fail
  refine HL2.out.mono ?_
  rintro e w' ⟨rfl, rfl⟩
  go_wp2_with fail
  go_ret
  exact ⟨rfl, R6, HE6.out⟩

end Go.Proofs.Ytnbecpeiodcohaa

namespace Go.Proofs.Ytnbecpeiodcohaa
open Go.RowKit
set_option linter.unusedVariables false


theorem Ev.regPerm {R R1 : Reg} {w w1 : World} {B b : Nat} {E T : TypeId} {v : Value} {S : List Nat} (he : Ev R w R1 w1) (hB : w.heap.size ≤ B) (ho : OwnI R1 B E w1 v (toI S)) (hS : IsPerm S) (hn : S.length ≤ 4194304)
    (hb : w1.heap[b]? = some (.cells #[v, .int .u32 0, .int .i32 0, .int .u32 0, .slice none 0 0] T (0, 0))) (hbw : w.heap.size ≤ b) (hbn : R1 b = none) (hd : v.ownBlock ≠ some b) :
    ∃ R2, Ev R w R2 w1 ∧ PermAt R2 (.pointer (some ⟨b, 0, none⟩)) S := by
  obtain ⟨R2, he2, hf, hk, hn2⟩ := ho.fix he hB
  exact ⟨R2.put b (.inr (.inl S)), he2.put _ hbw (hn2 b hbn hd) ⟨hS, hn, v, T, 0, nilS, hb, hf, Or.inl ⟨rfl, rfl⟩⟩, b, rfl, Reg.put_same _ _ _⟩

def RetPm (R : Reg) (w : World) (S : List Nat) (e : Ending) (w' : World) : Prop :=
  ∃ p R', e = .returned p ∧ Ev R w R' w' ∧ PermAt R' p S

set_option maxRecDepth 100000 in
set_option maxHeartbeats 2000000 in
theorem one_any (R : Reg) (w : World) (hI : Inv R w) (n : Nat) (hn : n ≤ 1000000) : Calls Try.prog 55 #[.int .i64 (n : Int)] w (RetPm R w (List.range n)) := by
  have HI := Lib.hid hI
  clear hI
  have hmx : max (n : Int) 0 = (n : Int) := by omega
  obtain ⟨T, hT⟩ : ∃ T : TypeId, T = 141 := ⟨_, rfl⟩
  go_enter Try.func55, Try.ntmps55
  go_wp2_with fail
  obtain ⟨b, hb⟩ : ∃ b, w.heap.size = b := ⟨_, rfl⟩
  have hE0 : Ev R w R (w.alloc (.cells #[.slice none 0 0, .int .u32 0, .int .i32 0, .int .u32 0, .slice none 0 0] T)) := (Ev.refl HI.out).alloc _
  have hB0 : (w.alloc (.cells #[.slice none 0 0, .int .u32 0, .int .i32 0, .int .u32 0, .slice none 0 0] T)).heap[b]? = some (.cells #[.slice none 0 0, .int .u32 0, .int .i32 0, .int .u32 0, .slice none 0 0] T (0, 0)) := by rw [← hb]; exact heap_alloc_new w _
  have hbn : R b = none := HI.out.none_of_ge (by omega)
  have HE0 := Lib.hid hE0
  have HB0 := Lib.hid hB0
  have HBn := Lib.hid hbn
  have HBb := Lib.hid hb
  rw [← hT, hb]
  clear hE0 hB0 hbn hb
  go_loopg [9] n (fun g v9 wr => ∃ (i : Nat) (a : Option Addr) (l c : Nat), i ≤ n ∧ n - i ≤ g ∧ v9 = .int .i64 (i : Int) ∧ Ev R w R wr ∧ wr.heap[b]? = some (.cells #[.slice a l c, .int .u32 0, .int .i32 0, .int .u32 0, .slice none 0 0] T (0, 0)) ∧ OwnI R w.heap.size 3 wr (.slice a l c) (toI (List.range i)) ∧ (Value.slice a l c).ownBlock ≠ some b)
  case atStart => exact ⟨0, none, 0, 0, Nat.zero_le _, by omega, rfl, HE0.out, HB0.out, OwnI.nil _ _ _ _, by simp [Value.ownBlock]⟩
  case round =>
    obtain ⟨i, a, l, c, hin, hg, rfl, he, hbl, ho, hds⟩ := hrel
    have HE := Lib.hid he
    have HO := Lib.hid ho
    have HD := Lib.hid hds
    have HBl := Lib.hid hbl
    have hbz := lt_of_block hbl
    clear he ho hds
    by_cases hil : i < n
    · have c0 : wr.cell? ⟨b, 0, none⟩ = some (.slice a l c) := cells_at hbl 0
      have HEa := Lib.hid (HE.out.alloc (.cells #[.int .i64 (i : Int)] 3))
      have HOa := Lib.hid (HO.out.alloc (.cells #[.int .i64 (i : Int)] 3))
      have HBa : Hid ((wr.alloc (.cells #[.int .i64 (i : Int)] 3)).heap[b]? = _) := Lib.hid ((Below.heap_alloc _ _ _ hbz).trans HBl.out)
      clear hbl
      go_wp2_with (at_builtin; refine wpList_app_int (R := R) (B := w.heap.size) rfl _ _ rfl HOa.out rfl ⟨wr.heap.size, 0, none⟩ 1 (i : Int) ?a0 ?a1 ?a2 ?a3 ?a4 ?_)
      case a0 => first | rfl | simp
      case a1 => first | rfl | simp
      case a2 => rw [toI_length, List.length_range]; omega
      case a3 => have := HE.out.size; simp; omega
      case a4 => exact fun q hq => HEa.out.inv.none_of_ge (by simp at hq ⊢; omega)
      intro v8 w6 ho8 hg6 hs6
      obtain ⟨a8, c8, rfl, _⟩ := ho8.ints.open
      rw [← toI_range_succ] at ho8 hs6 ⊢
      obtain ⟨l8, hl8⟩ : ∃ l, (toI (List.range (i + 1))).length = l := ⟨_, rfl⟩
      rw [hl8] at ho8 hs6 ⊢
      have hb6 := (hg6.block b (lt_of_block HBa.out) (fun e => HD.out e.symm)).trans HBa.out
      have hd6 : (Value.slice a8 l8 c8).ownBlock ≠ some b := fun h => by
        rcases hs6 b h with e | e
        · exact HD.out e
        · first | omega | (simp at e; omega)
      have hn6 : w6.cell? ⟨b, 0, none⟩ = some (.slice a l c) := cells_at hb6 0
      have hz6 : w6.frozen? ⟨b, 0, none⟩ = false := by simp [World.frozen?, hb6]
      have hb7 := heap_setCell_same w6 b 0 _ T (.slice a8 l8 c8) hb6
      have he7 := (HEa.out.app HOa.out (Nat.le_refl _) hg6).setCell (p := ⟨b, 0, none⟩) (by show w.heap.size ≤ b; rw [HBb.out]; exact Nat.le_refl _) HBn.out (.slice a8 l8 c8)
      have ho7 := ho8.setCell (a := ⟨b, 0, none⟩) hd6 (.slice a8 l8 c8)
      have HB7 := Lib.hid hb7
      have HE7 := Lib.hid he7
      have HO7 := Lib.hid ho7
      have HD7 := Lib.hid hd6
      clear hl8 ho8 hg6 hs6 hb6 hb7 he7 ho7 hd6
      go_wp2_with fail
      go_roundg (n - (i + 1))
      case measure => omega
      case rel => exact ⟨i + 1, a8, l8, c8, by omega, by omega, by go_num, HE7.out, HB7.out, HO7.out, HD7.out⟩
    · obtain rfl : i = n := by omega
      obtain ⟨R2, he2, hp2⟩ := HE.out.regPerm (Nat.le_refl _) HO.out (range_perm i) (by rw [List.length_range]; omega) hbl (by rw [HBb.out]; exact Nat.le_refl _) HBn.out HD.out
      have HE2 := Lib.hid he2
      have HP2 := Lib.hid hp2
      clear hbl he2 hp2
      go_wp2_with fail
      go_ret
      exact ⟨_, R2, rfl, HE2.out, HP2.out⟩

end Go.Proofs.Ytnbecpeiodcohaa

namespace Go.Proofs.Ytnbecpeiodcohaa
open Go.RowKit
set_option linter.unusedVariables false

theorem relabel_nil1 (w : World) (v : Option Addr) : Calls Try.prog 54 #[.pointer none, .pointer v] w fun e w' => e = .returned (.tuple #[.pointer none, .int .i64 2]) ∧ w = w' := by
  go_enter Try.func54, Try.ntmps54
  go_wp2_with fail
  go_ret2
  exact ⟨rfl, rfl⟩
theorem relabel_nil2 (w : World) (b : Addr) : Calls Try.prog 54 #[.pointer (some b), .pointer none] w fun e w' => e = .returned (.tuple #[.pointer none, .int .i64 2]) ∧ w = w' := by
  go_enter Try.func54, Try.ntmps54
  go_wp2_with fail
  go_ret2
  exact ⟨rfl, rfl⟩
theorem dof_nil (w : World) (d : Int) : Calls Try.prog 94 #[.pointer none, .int .i64 d] w fun e w' => e = .returned (.tuple #[.pointer none, .int .i64 2]) ∧ w = w' := by
  go_enter Try.func94, Try.ntmps94
  go_wp2_with fail
  go_ret2
  exact ⟨rfl, rfl⟩
theorem dcut_nil (w : World) (d : Int) : Calls Try.prog 47 #[.pointer none, .int .i64 d] w fun e w' => e = .returned (.tuple #[.pointer none, .int .i64 2]) ∧ w = w' := by
  have HO := Lib.hid (dof_nil w d)
  go_enter Try.func47, Try.ntmps47
  go_wp2_with fail
  refine HO.out.mono ?_
  rintro e w' ⟨rfl, rfl⟩
  go_wp2_with fail
  go_ret2
  exact ⟨rfl, rfl⟩
theorem dshrink_nil (w : World) (d : Int) : Calls Try.prog 46 #[.pointer none, .int .i64 d] w fun e w' => e = .returned (.tuple #[.pointer none, .int .i64 2]) ∧ w = w' := by
  have HO := Lib.hid (dof_nil w d)
  go_enter Try.func46, Try.ntmps46
  go_wp2_with fail
  refine HO.out.mono ?_
  rintro e w' ⟨rfl, rfl⟩
  go_wp2_with fail
  go_ret2
  exact ⟨rfl, rfl⟩

set_option maxRecDepth 100000 in
set_option maxHeartbeats 2000000 in
theorem dualNil_walk (w : World) (d : Int) : Calls Try.prog 10 #[.int .i64 d] w (RetTrue noReg w) := by
  have HA := Lib.hid (awake10_any noReg w (Inv.noReg w))
  have hnot := not_run
  have hok1 : MapOk [1, 0] 0 0 := by unfold MapOk; simp
  have HOk := Lib.hid hok1
  clear hok1
  go_enter Try.func10, Try.ntmps10
  go_wp2_with fail
  refine HA.out.mono ?_
  rintro e w1 ⟨rfl, R1, he1⟩
  have h1 := new_yes R1 _ (he1.inv.alloc _) _ [1, 0] (FreeI.two he1.inv 1 0) 0 0 perm10 HOk.out
  have H1 := Lib.hid h1
  have HE1 := Lib.hid he1
  clear he1 h1
  go_wp2_with fail
  refine H1.out.mono ?_
  rintro e w2 ⟨p, R2, rfl, he2, hp⟩
  obtain ⟨b, rfl, hb⟩ := hp
  have HE2 := Lib.hid ((HE1.out.alloc (.cells #[.int .i64 1, .int .i64 0] 3)).trans he2)
  have HO := Lib.hid (one_any R2 w2 he2.inv 0 (by decide))
  clear he2 hb
  go_wp2_with fail
  refine HO.out.mono ?_
  rintro e w3 ⟨q, R3, rfl, he3, hq⟩
  obtain ⟨b3, rfl, hb3⟩ := hq
  have HE3 := Lib.hid (HE2.out.trans he3)
  clear he3 hb3
  go_wp2_with fail
  refine (relabel_nil1 w3 _).mono ?_
  rintro e w' ⟨rfl, rfl⟩
  go_wp2_with fail
  refine (relabel_nil2 w3 _).mono ?_
  rintro e w' ⟨rfl, rfl⟩
  go_wp2_with fail
  refine (dcut_nil w3 d).mono ?_
  rintro e w' ⟨rfl, rfl⟩
  go_wp2_with fail
  refine (dshrink_nil w3 d).mono ?_
  rintro e w' ⟨rfl, rfl⟩
  go_wp2_with fail
  refine (dual_nil w3).mono ?_
  rintro e w' ⟨rfl, rfl⟩
  go_wp2_with fail
  refine (mirror_nil w3).mono ?_
  rintro e w' ⟨rfl, rfl⟩
  go_wp2_with fail
  go_ret
  exact ⟨rfl, R3, HE3.out⟩

end Go.Proofs.Ytnbecpeiodcohaa

namespace Go.Proofs.Ytnbecpeiodcohaa
set_option linter.unusedVariables false

theorem eq_at {s t : List Nat} (h : s.length = t.length) (hk : ∀ j, j < s.length → at' s j = at' t j) : s = t := by
  refine List.ext_getElem h fun i h1 h2 => ?_
  have := hk i h1
  simpa [at', h1, h2] using this

section
variable {s : List Nat} (hs : IsPerm s) (he : s.length % 2 = 0)

include he in
theorem phi_phi : phiL (phiL s) = s := by
  refine eq_at (by rw [phiL_length, phiL_length]) fun j hj => ?_
  rw [phiL_length, phiL_length] at hj
  rw [phiL_at (by rw [phiL_length]; exact hj), phiL_at (xor_one_lt he hj), xor_one_one]

include hs in
theorem inv_inv : invL (invL s) = s := by
  have hi := invL_perm hs
  refine eq_at (by rw [invL_length, invL_length]) fun j hj => ?_
  rw [invL_length, invL_length] at hj
  have h := (at_invL hi (y := j) (by rw [invL_length]; exact hj))
  rw [invL_length] at h
  refine hi.inj (by rw [invL_length]; exact h.2) (by rw [invL_length]; exact hs.lt hj) ?_
  rw [h.1, invL_at hs hj]

include hs he
theorem con_phi_sub {x y : Nat} (h : Con (phiL s) x y) : Con s x y := by
  refine Con.sub (phiL_perm hs he) (r := Con s) (by rw [phiL_length]; exact Con.per hs) (fun z hz => ?_) (fun z hz => ?_) h
  · rw [phiL_length] at hz
    rw [phiL_at hz]
    exact (Con.per hs).trans (Con.mate hs he hz) (Con.step hs (xor_one_lt he hz))
  · rw [phiL_length] at hz
    exact Con.mate hs he hz
theorem con_phi (x y : Nat) (hx : x < s.length) (hy : y < s.length) : Con (phiL s) x y ↔ Con s x y := by
  refine ⟨con_phi_sub hs he, fun h => ?_⟩
  have := con_phi_sub (phiL_perm hs he) (by rw [phiL_length]; exact he) (x := x) (y := y)
  rw [phi_phi he] at this
  exact this h
theorem partsL_phi : partsL (phiL s) = partsL s := by
  have h1 := partsL_ord (phiL_perm hs he) (by rw [phiL_length]; exact he)
  rw [phiL_length] at h1
  exact (h1.congr (con_phi hs he)).unique (partsL_ord hs he)
theorem partsN_phi : partsN (phiL s) = partsN s := by
  have h1 := partsL_ord (phiL_perm hs he) (by rw [phiL_length]; exact he)
  rw [phiL_length] at h1
  have a := (h1.congr (con_phi hs he)).cnt_eq (Nat.le_refl _)
  have b := (partsL_ord hs he).cnt_eq (Nat.le_refl _)
  unfold partsN
  rw [phiL_length]
  exact a.trans b.symm
theorem genOf_phi (k : Nat) : genOf (phiL s) (partsL (phiL s)) k = genOf s (partsL s) k := by
  unfold genOf
  rw [partsL_phi hs he, phiL_length, phi_phi he]
  congr 1
  omega
theorem genusTo_phi : ∀ k, genusTo (phiL s) k = genusTo s k
  | 0 => rfl
  | k + 1 => by unfold genusTo; rw [genusTo_phi k, genOf_phi hs he]
theorem genusL_phi : genusL (phiL s) = genusL s := by
  unfold genusL; rw [partsN_phi hs he, genusTo_phi hs he]
end
end Go.Proofs.Ytnbecpeiodcohaa

namespace Go.Proofs.Ytnbecpeiodcohaa
set_option linter.unusedVariables false

theorem unL_mate (e j : Nat) : unL e (j ^^^ 1) = unL e j ^^^ 1 := by
  rw [xor_one j, xor_one (unL e j)]
  unfold unL
  repeat' split
  all_goals omega
theorem mate_own {d e : Nat} : (d ^^^ 1) / 2 = e ↔ d / 2 = e := by
  have h := xor_one d
  rw [h]
  split <;> omega
theorem exI_own {e i : Nat} (h : i / 2 = e) : exI e i = i ^^^ 1 := by
  rw [xor_one]; unfold exI
  repeat' split
  all_goals omega
theorem exI_else {e i : Nat} (h : ¬ i / 2 = e) : exI e i = i := by
  unfold exI; split <;> (try split) <;> omega

/-- passing asks for the edge's own darts alone -/
theorem pass_same {t u : List Nat} {e : Nat} (h : ∀ d, d / 2 = e → at' t d = at' u d) (x : Nat) : passN t e x = passN u e x := by
  have key : ∀ f x, passF t e f x = passF u e f x := fun f => by
    induction f with
    | zero => intro x; rfl
    | succ f ih =>
      intro x
      unfold passF
      by_cases hx : x / 2 = e
      · rw [if_pos hx, if_pos hx, h x hx, ih]
      · rw [if_neg hx, if_neg hx]
  exact key 2 x

theorem turn_shrink {s : List Nat} (hs : IsPerm s) (he : s.length % 2 = 0) {e : Nat} (hn : 2 * e + 2 ≤ s.length) : phiL (doneL (exL s e) e) = doneL (phiL s) e := by
  have hl : (doneL (exL s e) e).length = s.length - 2 := by rw [doneL_length, exL_length]
  refine eq_at (by rw [phiL_length, hl, doneL_length, phiL_length]) fun j hj => ?_
  rw [phiL_length, hl] at hj
  have hjm : (j ^^^ 1) < s.length - 2 := xor_one_lt (by omega) hj
  have hd : unL e j < s.length := unL_lt hn hj
  have hdm : (unL e j ^^^ 1) < s.length := xor_one_lt he hd
  rw [phiL_at (by rw [hl]; exact hj), doneL_at (by rw [exL_length]; exact hjm), doneL_at (by rw [phiL_length]; exact hj), unL_mate, phiL_at hd, exL_at hdm, exI_else (fun h => unL_own (mate_own.1 h))]
  congr 1
  refine pass_same (fun d hd => ?_) _
  have hdl : d < s.length := by omega
  rw [exL_at hdl, exI_own hd, phiL_at hdl]

end Go.Proofs.Ytnbecpeiodcohaa

namespace Go.Proofs.Ytnbecpeiodcohaa
set_option linter.unusedVariables false

/-- the first dart behind d that is none of Q's -/
inductive Way (s : List Nat) (Q : Nat → Prop) : Nat → Nat → Prop
  | one {d : Nat} : ¬ Q (at' s d) → Way s Q d (at' s d)
  | more {d y : Nat} : Q (at' s d) → Way s Q (at' s d) y → Way s Q d y
theorem Way.not {s : List Nat} {Q : Nat → Prop} {d y : Nat} (h : Way s Q d y) : ¬ Q y := by
  induction h with
  | one h => exact h
  | more _ _ ih => exact ih
theorem Way.same {s : List Nat} {Q : Nat → Prop} {d y z : Nat} (h : Way s Q d y) : Way s Q d z → y = z := by
  induction h with
  | one h => intro k; cases k with
    | one _ => rfl
    | more k _ => exact absurd k h
  | more h _ ih => intro k; cases k with
    | one k => exact absurd h k
    | more _ k => exact ih k
theorem Way.congr {s : List Nat} {Q Q' : Nat → Prop} (hq : ∀ x, Q x ↔ Q' x) {d y : Nat} (h : Way s Q d y) : Way s Q' d y := by
  induction h with
  | one h => exact .one fun k => h ((hq _).2 k)
  | more h _ ih => exact .more ((hq _).1 h) ih
/-- more is passed by -/
theorem Way.stop {s : List Nat} {Q P : Nat → Prop} {d y : Nat} (h : Way s Q d y) (hp : ¬ P y) : Way s (fun x => Q x ∨ P x) d y := by
  induction h with
  | one h => exact .one fun k => k.elim h hp
  | more h _ ih => exact .more (Or.inl h) (ih hp)
theorem Way.go {s : List Nat} {Q P : Nat → Prop} {d y z : Nat} (h : Way s Q d y) (hp : P y) (k : Way s (fun x => Q x ∨ P x) y z) : Way s (fun x => Q x ∨ P x) d z := by
  induction h with
  | one h => exact .more (Or.inr hp) k
  | more h _ ih => exact .more (Or.inl h) (ih hp k)
theorem Way.it {s : List Nat} {Q : Nat → Prop} {d y : Nat} (h : Way s Q d y) : ∃ m, itf (at' s) (m + 1) d = y ∧ ∀ j, 1 ≤ j → j ≤ m → Q (itf (at' s) j d) := by
  induction h with
  | one h => exact ⟨0, rfl, fun j h1 h2 => by omega⟩
  | more h _ ih =>
    obtain ⟨m, e, hq⟩ := ih
    refine ⟨m + 1, e, fun j h1 h2 => ?_⟩
    cases j with
    | zero => omega
    | succ j =>
      cases j with
      | zero => exact h
      | succ j => exact hq (j + 1) (by omega) (by omega)

section
variable {s : List Nat} (hs : IsPerm s)
include hs
theorem pass_way {e d : Nat} (hd : d < s.length) (ho : ¬ d / 2 = e) : Way s (fun x => x / 2 = e) d (passN s e (at' s d)) := by
  have hp := (pass_ok hs hd ho).1
  rcases pass_cases s e (at' s d) with ⟨a, b⟩ | ⟨a, a2, b⟩ | ⟨a, a2, b⟩
  · rw [b]; exact .one a
  · rw [b]; exact .more a (.one a2)
  · rw [b] at hp ⊢; exact .more a (.more a2 (.one hp))
theorem done_way {e j : Nat} (hn : 2 * e + 2 ≤ s.length) (hj : j < s.length - 2) : Way s (fun x => x / 2 = e) (unL e j) (unL e (at' (doneL s e) j)) := by
  rw [doneL_at hj, un_nm (pass_ok hs (unL_lt hn hj) unL_own).1]
  exact pass_way hs (unL_lt hn hj) unL_own
/-- a way in the map with an edge less is one in the map -/
theorem way_done {k : Nat} (hn : 2 * k + 2 ≤ s.length) {P P' : Nat → Prop} (hP : ∀ x, x < s.length - 2 → (P x ↔ P' (unL k x))) {j z : Nat} (hj : j < s.length - 2) (h : Way (doneL s k) P j z) : Way s (fun x => x / 2 = k ∨ P' x) (unL k j) (unL k z) ∧ z < s.length - 2 := by
  have hp := doneL_perm hs hn
  induction h with
  | @one d h =>
    have hl := hp.lt (i := d) (by rw [doneL_length]; exact hj)
    rw [doneL_length] at hl
    exact ⟨(done_way hs hn hj).stop fun k => h ((hP _ hl).2 k), hl⟩
  | @more d y h _ ih =>
    have hl := hp.lt (i := d) (by rw [doneL_length]; exact hj)
    rw [doneL_length] at hl
    obtain ⟨h1, h2⟩ := ih hl
    exact ⟨(done_way hs hn hj).go ((hP _ hl).1 h) h1, h2⟩

/-- of two edges it doesn't matter which is cut first -/
theorem cut_cut {i k : Nat} (hik : i < k) (hn : 2 * k + 2 ≤ s.length) : doneL (doneL s k) i = doneL (doneL s i) (k - 1) := by
  have hpk := doneL_perm hs hn
  have hpi := doneL_perm hs (e := i) (by omega)
  have hlk := doneL_length s k
  have hli := doneL_length s i
  have hun : ∀ j, unL k (unL i j) = unL i (unL (k - 1) j) := fun j => by
    unfold unL; repeat' split
    all_goals omega
  refine eq_at (by simp only [doneL_length]) fun j hj => ?_
  rw [doneL_length, hlk] at hj
  have w1 := done_way hpk (e := i) (j := j) (by omega) (by omega)
  have w2 := done_way hpi (e := k - 1) (j := j) (by omega) (by omega)
  have h1 := way_done hs hn (P := fun x => x / 2 = i) (P' := fun x => x / 2 = i) (fun x _ => by unfold unL; split <;> omega) (unL_lt (n := s.length - 2) (by omega) (by omega)) w1
  have h2 := way_done hs (k := i) (by omega) (P := fun x => x / 2 = k - 1) (P' := fun x => x / 2 = k) (fun x _ => by unfold unL; split <;> omega) (unL_lt (n := s.length - 2) (by omega) (by omega)) w2
  rw [hun, hun] at h1
  have h3 := h1.1.congr (Q' := fun x => x / 2 = i ∨ x / 2 = k) fun x => Or.comm
  exact unL_inj (unL_inj (h3.same h2.1))
end
end Go.Proofs.Ytnbecpeiodcohaa

namespace Go.Proofs.Ytnbecpeiodcohaa
set_option linter.unusedVariables false

theorem it_itf (s : List Nat) : ∀ (j x : Nat), it s j x = itf (at' s) j x
  | 0, _ => rfl
  | j + 1, x => it_itf s j (at' s x)
theorem sizesL_tally {s : List Nat} (hs : IsPerm s) : (sizesL s).length = tally (Least (cyc s.length (at' s))) s.length := by
  have h1 := sizesGo_length hs s.length (Nat.le_refl _)
  have h2 := (namesL_ord hs).cnt_eq (Nat.le_refl s.length)
  have e : sizesGo s s.length = sizesL s := by unfold sizesGo sizesL; rw [List.take_of_length_le (by rw [namesL_length]; exact Nat.le_refl _)]
  rw [← e, h1]
  exact h2
theorem tally_two {p : Nat → Prop} {n a b : Nat} (ha : a < n) (hb : b < n) (hab : a ≠ b) (h : ∀ x, x < n → p x → x = a ∨ x = b) : tally p n = ind (p a) + ind (p b) := by
  have none : ∀ {q : Nat → Prop}, (∀ x, x < n → q x → x = b) → ¬ q b → tally q n = 0 := fun h1 h2 => tally_none fun k hk hq => h2 (h1 k hk hq ▸ hq)
  have one : ∀ {q : Nat → Prop}, (∀ x, x < n → q x → x = b) → q b → tally q n = 1 := fun {q} h1 h2 => by
    rw [tally_but hb h2, tally_none fun k hk hq => hq.2 (h1 k hk hq.1)]
  by_cases h1 : p a
  · have e : tally p n = tally (fun k => p k ∧ k ≠ a) n + 1 := tally_but ha h1
    have hx : ∀ x, x < n → (p x ∧ x ≠ a) → x = b := fun x hx hp => (h x hx hp.1).resolve_left hp.2
    by_cases h2 : p b
    · have := one hx ⟨h2, fun e => hab e.symm⟩
      rw [ind_yes h1, ind_yes h2]; omega
    · have := none hx (fun k => h2 k.1)
      rw [ind_yes h1, ind_no h2]; omega
  · have hx : ∀ x, x < n → p x → x = b := fun x hx hp => (h x hx hp).resolve_left (fun e => h1 (e ▸ hp))
    by_cases h2 : p b
    · have := one hx h2
      rw [ind_no h1, ind_yes h2]; omega
    · have := none hx h2
      rw [ind_no h1, ind_no h2]; omega
theorem ind_oneIf {p : Prop} {b : Bool} (h : p ↔ b = true) : ((ind p : Nat) : Int) = oneIf b := by
  cases b with
  | true => rw [ind_yes (h.2 rfl)]; rfl
  | false => rw [ind_no (fun k => by have := h.1 k; cases this)]; rfl

section
variable {p n : Nat} {r q : Nat → Nat → Prop} {P : Nat → Prop} (hr : Per p r) (hq : Per n q) (f : Nat → Nat)
  (hf : ∀ x, x < p → f x < n ∧ P (f x)) (hb : ∀ y, y < n → P y → ∃ x, x < p ∧ q (f x) y) (hP : ∀ x y, P x → q x y → P y) (hrq : ∀ x y, x < p → y < p → (r x y ↔ q (f x) (f y)))
include hr hq hf hb hP hrq
/-- as many classes there as here, where each class there is met -/
theorem cls_cover : cls r (fun _ => True) p = cls q P n := by
  have hx : ∀ x, ∃ l, x < p → q l (f x) ∧ Least q l := fun x => by
    by_cases h : x < p
    · obtain ⟨l, _, h1, h2⟩ := hq.least (f x) (hf x h).1
      exact ⟨l, fun _ => ⟨h1, h2⟩⟩
    · exact ⟨0, fun h' => absurd h' h⟩
  have hy : ∀ y, ∃ l, y < n → P y → ∃ x, x < p ∧ q (f x) y ∧ r l x ∧ Least r l := fun y => by
    by_cases h : y < n ∧ P y
    · obtain ⟨x, h1, h2⟩ := hb y h.1 h.2
      obtain ⟨l, _, h3, h4⟩ := hr.least x h1
      exact ⟨l, fun _ _ => ⟨x, h1, h2, h3, h4⟩⟩
    · exact ⟨0, fun h1 h2 => absurd ⟨h1, h2⟩ h⟩
  refine Nat.le_antisymm ?_ ?_
  · refine tally_inj (fun x => Classical.choose (hx x)) (fun x hxp _ => ?_) (fun x y hxp hyp h1 h2 e => ?_)
    · obtain ⟨h1, h2⟩ := Classical.choose_spec (hx x) hxp
      exact ⟨hq.dom h1, hP _ _ (hf x hxp).2 (hq.symm h1), h2⟩
    · have e : Classical.choose (hx x) = Classical.choose (hx y) := e
      have a := (Classical.choose_spec (hx x) hxp).1
      have b := (Classical.choose_spec (hx y) hyp).1
      rw [e] at a
      exact hr.least_one h1.2 h2.2 ((hrq x y hxp hyp).2 (hq.trans (hq.symm a) b))
  · refine tally_inj (fun y => Classical.choose (hy y)) (fun y hyn h => ?_) (fun y z hyn hzn h1 h2 e => ?_)
    · obtain ⟨x, h1, h2, h3, h4⟩ := Classical.choose_spec (hy y) hyn h.1
      exact ⟨hr.dom h3, trivial, h4⟩
    · have e : Classical.choose (hy y) = Classical.choose (hy z) := e
      obtain ⟨x, a1, a2, a3, _⟩ := Classical.choose_spec (hy y) hyn h1.1
      obtain ⟨x', b1, b2, b3, _⟩ := Classical.choose_spec (hy z) hzn h2.1
      rw [e] at a3
      have h := (hrq x x' a1 b1).1 (hr.trans (hr.symm a3) b3)
      exact hq.least_one h1.2 h2.2 (hq.trans (hq.symm a2) (hq.trans h b2))
end

theorem itf_plus (f : Nat → Nat) : ∀ (a b x : Nat), itf f (a + b) x = itf f b (itf f a x)
  | 0, b, x => by rw [Nat.zero_add]; rfl
  | a + 1, b, x => by rw [show a + 1 + b = (a + b) + 1 by omega]; exact itf_plus f a b (f x)

section
variable {s : List Nat} (hs : IsPerm s) {e : Nat} (hn : 2 * e + 2 ≤ s.length)
include hs hn

theorem cyc_done {x y : Nat} (hx : x < s.length - 2) (hy : y < s.length - 2) : cyc (s.length - 2) (at' (doneL s e)) x y ↔ cyc s.length (at' s) (unL e x) (unL e y) := by
  have hp : Pm (s.length - 2) (at' (doneL s e)) := by have := (doneL_perm hs hn).pm; rwa [doneL_length] at this
  have hq := hs.pm.per
  have hstep : ∀ z, z < s.length - 2 → ∃ m, itf (at' s) (m + 1) (unL e z) = unL e (at' (doneL s e) z) ∧ ∀ j, 1 ≤ j → j ≤ m → itf (at' s) j (unL e z) / 2 = e := fun z hz => (done_way hs hn hz).it
  constructor
  · have hper : Per (s.length - 2) (fun x y => x < s.length - 2 ∧ y < s.length - 2 ∧ cyc s.length (at' s) (unL e x) (unL e y)) :=
      ⟨fun h => ⟨h, h, hq.refl (unL_lt hn h)⟩, fun h => ⟨h.2.1, h.1, hq.symm h.2.2⟩, fun h k => ⟨h.1, k.2.1, hq.trans h.2.2 k.2.2⟩, fun h => h.1⟩
    intro h
    exact (hp.cyc_sub hper (fun z hz => by
      obtain ⟨m, e1, _⟩ := hstep z hz
      exact ⟨hz, hp.lt hz, unL_lt hn hz, unL_lt hn (hp.lt hz), m + 1, e1⟩) h).2.2
  · rintro ⟨_, _, m, hm⟩
    induction m using Nat.strongRecOn generalizing x with
    | ind m ih =>
      cases m with
      | zero =>
        have : unL e x = unL e y := hm
        rw [unL_inj this]
        exact hp.per.refl hy
      | succ m =>
        obtain ⟨m1, e1, hown⟩ := hstep x hx
        by_cases hle : m1 ≤ m
        · have e2 : m + 1 = (m1 + 1) + (m - m1) := by omega
          rw [e2, itf_plus, e1] at hm
          exact hp.per.trans (hp.step hx) (ih (m - m1) (by omega) (hp.lt hx) (unL_lt hn (hp.lt hx)) hm)
        · have := hown (m + 1) (by omega) (by omega)
          rw [hm] at this
          exact absurd this unL_own

theorem bare_iff {d : Nat} (hd : d < s.length) : bareB s e d = true ↔ ∀ z, cyc s.length (at' s) d z → z / 2 = e := by
  have _h := hn
  unfold bareB ownB
  rw [List.all_eq_true]
  constructor
  · rintro h z ⟨_, _, j, hj⟩
    have := h z ((hs.mem_orbit hd).2 ⟨j, by rw [it_itf]; exact hj⟩)
    simpa using this
  · intro h y hy
    obtain ⟨j, hj⟩ := (hs.mem_orbit hd).1 hy
    have hl : y < s.length := by rw [← hj, it_itf]; exact hs.pm.it hd j
    have := h y ⟨hd, hl, j, by rw [← it_itf]; exact hj⟩
    simpa using this

theorem cut_vertices : (((sizesL (doneL s e)).length : Nat) : Int) + cutLone s e = ((sizesL s).length : Nat) := by
  have hq := hs.pm.per
  have hpd := doneL_perm hs hn
  have hr : Per (s.length - 2) (cyc (s.length - 2) (at' (doneL s e))) := by have := hpd.pm.per; rwa [doneL_length] at this
  have hA : 2 * e < s.length := by omega
  have hB : 2 * e + 1 < s.length := by omega
  have h1 : (sizesL (doneL s e)).length = cls (cyc (s.length - 2) (at' (doneL s e))) (fun _ => True) (s.length - 2) := by
    rw [sizesL_tally hpd, doneL_length]
    exact tally_congr fun k _ => ⟨fun h => ⟨trivial, h⟩, fun h => h.2⟩
  have h2 := cls_cover (P := fun y => ∃ z, cyc s.length (at' s) y z ∧ ¬ z / 2 = e) hr hq (unL e) (fun x hx => ⟨unL_lt hn hx, unL e x, hq.refl (unL_lt hn hx), unL_own⟩) (fun y hy hP => by
    obtain ⟨z, hz, ho⟩ := hP
    have hzl := hq.cod hz
    exact ⟨nmL e z, nmL_lt hn ho hzl, by rw [un_nm ho]; exact hq.symm hz⟩) (fun x y hx hxy => by
    obtain ⟨z, hz, ho⟩ := hx
    exact ⟨z, hq.trans (hq.symm hxy) hz, ho⟩) (fun x y hx hy => cyc_done hs hn hx hy)
  have h3 : (sizesL s).length = cls (cyc s.length (at' s)) (fun y => ∃ z, cyc s.length (at' s) y z ∧ ¬ z / 2 = e) s.length + tally (fun x => Least (cyc s.length (at' s)) x ∧ ¬ ∃ z, cyc s.length (at' s) x z ∧ ¬ z / 2 = e) s.length := by
    rw [sizesL_tally hs, tally_split _ (fun y => ∃ z, cyc s.length (at' s) y z ∧ ¬ z / 2 = e)]
    congr 1
    exact tally_congr fun k _ => And.comm
  have hown : ∀ x, x < s.length → (¬ ∃ z, cyc s.length (at' s) x z ∧ ¬ z / 2 = e) → x / 2 = e := fun x hx h => by
    by_cases ho : x / 2 = e
    · exact ho
    · exact absurd ⟨x, hq.refl hx, ho⟩ h
  have h4 := tally_two (p := fun x => Least (cyc s.length (at' s)) x ∧ ¬ ∃ z, cyc s.length (at' s) x z ∧ ¬ z / 2 = e) hA hB (by omega) (fun x hx hp => by have := hown x hx hp.2; omega)
  have hbare : ∀ d, d < s.length → (bareB s e d = true ↔ ¬ ∃ z, cyc s.length (at' s) d z ∧ ¬ z / 2 = e) := fun d hd => by
    rw [bare_iff hs hn hd]
    constructor
    · rintro h ⟨z, hz, ho⟩
      exact ho (h z hz)
    · intro h z hz
      by_cases ho : z / 2 = e
      · exact ho
      · exact absurd ⟨z, hz, ho⟩ h
  have hrel := (namesL_ord hs).rel (2 * e) (2 * e + 1) hA hB
  have hpa : (Least (cyc s.length (at' s)) (2 * e) ∧ ¬ ∃ z, cyc s.length (at' s) (2 * e) z ∧ ¬ z / 2 = e) ↔ bareB s e (2 * e) = true := by
    rw [hbare _ hA]
    exact ⟨fun h => h.2, fun h => ⟨fun y hy hc => h ⟨y, hq.symm hc, by omega⟩, h⟩⟩
  have hpb : (Least (cyc s.length (at' s)) (2 * e + 1) ∧ ¬ ∃ z, cyc s.length (at' s) (2 * e + 1) z ∧ ¬ z / 2 = e) ↔ (!decide (nth (namesL s) (2 * e) = nth (namesL s) (2 * e + 1)) && bareB s e (2 * e + 1)) = true := by
    rw [Bool.and_eq_true, hbare _ hB, Bool.not_eq_true', decide_eq_false_iff_not, hrel]
    constructor
    · exact fun h => ⟨fun k => h.1 (2 * e) (by omega) k, h.2⟩
    · refine fun h => ⟨fun y hy hc => ?_, h.2⟩
      by_cases hy2 : y = 2 * e
      · subst hy2; exact h.1 hc
      · exact h.2 ⟨y, hq.symm hc, by omega⟩
  rw [h1, h2, h3]
  unfold cutLone
  have ea := ind_oneIf hpa
  have eb := ind_oneIf hpb
  rw [← ea, ← eb, h4]
  omega
end

/-- dual and mirror, in any order: as many vertices -/
theorem mirror_vertices {s : List Nat} (hs : IsPerm s) (he : s.length % 2 = 0) : (sizesL (phiL (invL s))).length = (sizesL (invL (phiL s))).length := by
  have hpp := phiL_perm hs he
  have hi := invL_perm hs
  have hip := phiL_perm hi (by rw [invL_length]; exact he)
  have p1 : Per s.length (cyc s.length (at' (phiL s))) := by have := hpp.pm.per; rwa [phiL_length] at this
  have p2 : Per s.length (cyc s.length (at' (phiL (invL s)))) := by have := hip.pm.per; rwa [phiL_length, invL_length] at this
  have e1 : (sizesL (invL (phiL s))).length = cls (cyc s.length (at' (phiL s))) (fun _ => True) s.length := by
    rw [sizesL_tally (invL_perm hpp), invL_length, phiL_length]
    refine tally_congr fun k hk => ?_
    have hc := cyc_inv hpp
    rw [phiL_length] at hc
    have hl : Least (cyc s.length (at' (invL (phiL s)))) k ↔ Least (cyc s.length (at' (phiL s))) k :=
      ⟨fun h y hy hc' => h y hy ((hc y k (p1.dom hc') hk).2 hc'), fun h y hy hc' => h y hy ((hc y k (by omega) hk).1 hc')⟩
    exact ⟨fun h => ⟨trivial, hl.1 h⟩, fun h => hl.2 h.2⟩
  have e2 : (sizesL (phiL (invL s))).length = cls (cyc s.length (at' (phiL (invL s)))) (fun _ => True) s.length := by
    rw [sizesL_tally hip, phiL_length, invL_length]
    exact tally_congr fun k hk => ⟨fun h => ⟨trivial, h⟩, fun h => h.2⟩
  rw [e1, e2]
  exact Nat.le_antisymm (cls_mates p1 p2 he (P := fun _ => True) (fun _ _ _ _ => trivial) (fun _ _ => Iff.rfl) (cyc_phi_inv hs he))
    (cls_mates p2 p1 he (P := fun _ => True) (fun _ _ _ _ => trivial) (fun _ _ => Iff.rfl) (fun x y hx hy => by
      rw [cyc_phi_inv hs he _ _ (xor_one_lt he hx) (xor_one_lt he hy), xor_one_one, xor_one_one]))

end Go.Proofs.Ytnbecpeiodcohaa

namespace Go.Proofs.Ytnbecpeiodcohaa
set_option linter.unusedVariables false

theorem exL_swp {s : List Nat} {e x : Nat} (hx : x < s.length) : at' (exL s e) x = swp (at' s) (2 * e) (2 * e + 1) x := by
  rw [exL_at hx]
  unfold exI swp
  by_cases h1 : x = 2 * e
  · subst h1; rw [if_neg (by omega), if_pos rfl, if_pos rfl]
  · by_cases h2 : x = 2 * e + 1
    · subst h2; rw [if_pos rfl, if_neg h1, if_pos rfl]
    · rw [if_neg h2, if_neg h1, if_neg h1, if_neg h2]

section
variable {s : List Nat} (hs : IsPerm s) {e : Nat} (hn : 2 * e + 2 ≤ s.length) (hne : nth (namesL s) (2 * e) ≠ nth (namesL s) (2 * e + 1))
include hs hn hne

theorem ex_not : ¬ cyc s.length (at' s) (2 * e) (2 * e + 1) := fun h => hne (((namesL_ord hs).rel _ _ (by omega) (by omega)).2 h)
/-- the two vertices are one -/
theorem ex_cyc {x y : Nat} (hx : x < s.length) (hy : y < s.length) : cyc s.length (at' (exL s e)) x y ↔ mrg (cyc s.length (at' s)) (2 * e) (2 * e + 1) x y := by
  rw [← hs.pm.swp_mrg (by omega) (by omega) (by omega) (ex_not hs hn hne)]
  have h1 : Pm s.length (at' (exL s e)) := by have := (exL_perm hs hn).pm; rwa [exL_length] at this
  have h2 : Pm s.length (swp (at' s) (2 * e) (2 * e + 1)) := hs.pm.swap (by omega) (by omega) (by omega)
  constructor
  · exact h1.cyc_sub h2.per fun z hz => by rw [exL_swp hz]; exact h2.step hz
  · exact h2.cyc_sub h1.per fun z hz => by rw [← exL_swp hz]; exact h1.step hz
theorem ex_vertices : (sizesL (exL s e)).length + 1 = (sizesL s).length := by
  rw [sizesL_tally (exL_perm hs hn), sizesL_tally hs, exL_length]
  have h := cls_mrg hs.pm.per (P := fun _ => True) (fun _ _ _ _ => trivial) (a := 2 * e) (b := 2 * e + 1) (by omega) (by omega) (ex_not hs hn hne) trivial trivial
  have e1 : ∀ (r : Nat → Nat → Prop) n, cls r (fun _ => True) n = tally (Least r) n := fun r n => tally_congr fun k _ => ⟨fun h => h.2, fun h => ⟨trivial, h⟩⟩
  have e2 : cls (cyc s.length (at' (exL s e))) (fun _ => True) s.length = cls (mrg (cyc s.length (at' s)) (2 * e) (2 * e + 1)) (fun _ => True) s.length := cls_congr fun x y hx hy => ex_cyc hs hn hne hx hy
  rw [← e1, ← e1, e2]
  omega
theorem ex_lone : cutLone (exL s e) e = shrLone s e := by
  have hp := exL_perm hs hn
  have hl := exL_length s e
  have hq := hs.pm.per
  have hA : 2 * e < s.length := by omega
  have hB : 2 * e + 1 < s.length := by omega
  have hc := fun x y (hx : x < s.length) (hy : y < s.length) => ex_cyc hs hn hne hx hy
  have hab : cyc s.length (at' (exL s e)) (2 * e) (2 * e + 1) := (hc _ _ hA hB).2 (Or.inr (Or.inl ⟨hq.refl hA, hq.refl hB⟩))
  have hnm : nth (namesL (exL s e)) (2 * e) = nth (namesL (exL s e)) (2 * e + 1) := by
    have := (namesL_ord hp).rel (2 * e) (2 * e + 1) (by rw [hl]; exact hA) (by rw [hl]; exact hB)
    rw [hl] at this
    exact this.2 hab
  unfold cutLone shrLone
  rw [decide_eq_true hnm]
  have hb : bareB (exL s e) e (2 * e) = (bareB s e (2 * e) && bareB s e (2 * e + 1)) := by
    rw [Bool.eq_iff_iff, Bool.and_eq_true, bare_iff hs hn hA, bare_iff hs hn hB, bare_iff hp (by rw [hl]; exact hn) (by rw [hl]; exact hA), hl]
    constructor
    · refine fun h => ⟨fun z hz => h z ((hc _ _ hA (hq.cod hz)).2 (Or.inl hz)), fun z hz => h z ((hc _ _ hA (hq.cod hz)).2 (Or.inr (Or.inl ⟨hq.refl hA, hz⟩)))⟩
    · rintro ⟨h1, h2⟩ z hz
      have hpe : Per s.length (cyc s.length (at' (exL s e))) := by have := hp.pm.per; rwa [hl] at this
      rcases (hc _ _ hA (hpe.cod hz)).1 hz with k | ⟨_, k⟩ | ⟨_, k⟩
      · exact h1 z k
      · exact h2 z k
      · exact h1 z k
  rw [hb]
  simp [oneIf]
theorem shrink_vertices : (((sizesL (doneL (exL s e) e)).length : Nat) : Int) + shrLone s e + 1 = ((sizesL s).length : Nat) := by
  have h1 := cut_vertices (exL_perm hs hn) (e := e) (by rw [exL_length]; exact hn)
  have h2 := ex_vertices hs hn hne
  rw [ex_lone hs hn hne] at h1
  omega
/-- a face of the edge's darts alone is left where both ends are bare -/
theorem phi_lone (he : s.length % 2 = 0) : cutLone (phiL s) e = shrLone s e := by
  have hp := phiL_perm hs he
  have hl := phiL_length s
  have hA : 2 * e < s.length := by omega
  have hB : 2 * e + 1 < s.length := by omega
  have hq := hs.pm.per
  have hpe : Per s.length (cyc s.length (at' (phiL s))) := by have := hp.pm.per; rwa [hl] at this
  have hst : ∀ z, z < s.length → cyc s.length (at' (phiL s)) z (at' (phiL s) z) := fun z hz => by have := hp.pm.step (x := z) (by rw [hl]; exact hz); rwa [hl] at this
  have x1 : (2 * e) ^^^ 1 = 2 * e + 1 := xor_even e
  have x2 : (2 * e + 1) ^^^ 1 = 2 * e := by rw [← x1, xor_one_one]
  have pa : at' (phiL s) (2 * e) = at' s (2 * e + 1) := by rw [phiL_at hA, x1]
  have pb : at' (phiL s) (2 * e + 1) = at' s (2 * e) := by rw [phiL_at hB, x2]
  have nn := ex_not hs hn hne
  have own : ∀ z, z / 2 = e → z = 2 * e ∨ z = 2 * e + 1 := fun z hz => by omega
  -- a vertex that is bare is one dart
  have va : bareB s e (2 * e) = true ↔ at' s (2 * e) = 2 * e := by
    rw [bare_iff hs hn hA]
    constructor
    · intro h
      rcases own _ (h _ (hs.pm.step hA)) with k | k
      · exact k
      · exact absurd (by have := hs.pm.step hA; rwa [k] at this) nn
    · intro h z hz
      have := hs.pm.cyc_sub (r := fun x y => x < s.length ∧ y < s.length ∧ (x = 2 * e ↔ y = 2 * e)) ⟨fun h => ⟨h, h, Iff.rfl⟩, fun h => ⟨h.2.1, h.1, h.2.2.symm⟩, fun h k => ⟨h.1, k.2.1, h.2.2.trans k.2.2⟩, fun h => h.1⟩ (fun x hx => ⟨hx, hs.lt hx, ⟨fun e1 => by rw [e1]; exact h, fun e1 => hs.inj hx hA (by rw [h]; exact e1)⟩⟩) hz
      have := this.2.2.1 rfl
      omega
  have vb : bareB s e (2 * e + 1) = true ↔ at' s (2 * e + 1) = 2 * e + 1 := by
    rw [bare_iff hs hn hB]
    constructor
    · intro h
      rcases own _ (h _ (hs.pm.step hB)) with k | k
      · exact absurd (hq.symm (by have := hs.pm.step hB; rwa [k] at this)) nn
      · exact k
    · intro h z hz
      have := hs.pm.cyc_sub (r := fun x y => x < s.length ∧ y < s.length ∧ (x = 2 * e + 1 ↔ y = 2 * e + 1)) ⟨fun h => ⟨h, h, Iff.rfl⟩, fun h => ⟨h.2.1, h.1, h.2.2.symm⟩, fun h k => ⟨h.1, k.2.1, h.2.2.trans k.2.2⟩, fun h => h.1⟩ (fun x hx => ⟨hx, hs.lt hx, ⟨fun e1 => by rw [e1]; exact h, fun e1 => hs.inj hx hB (by rw [h]; exact e1)⟩⟩) hz
      have := this.2.2.1 rfl
      omega
  have fa : bareB (phiL s) e (2 * e) = true ↔ at' s (2 * e) = 2 * e ∧ at' s (2 * e + 1) = 2 * e + 1 := by
    rw [bare_iff hp (by rw [hl]; exact hn) (by rw [hl]; exact hA), hl]
    constructor
    · intro h
      have h1 := h _ (hst _ hA)
      rw [pa] at h1
      have k1 : at' s (2 * e + 1) = 2 * e + 1 := by
        rcases own _ h1 with k | k
        · exact absurd (hq.symm (by have := hs.pm.step hB; rwa [k] at this)) nn
        · exact k
      have h2 := h _ (hpe.trans (hst _ hA) (by rw [pa, k1]; exact hst _ hB))
      rw [pb] at h2
      refine ⟨?_, k1⟩
      rcases own _ h2 with k | k
      · exact k
      · exact absurd (by have := hs.pm.step hA; rwa [k] at this) nn
    · rintro ⟨k1, k2⟩ z hz
      have hpm : Pm s.length (at' (phiL s)) := by have := hp.pm; rwa [hl] at this
      have := hpm.cyc_sub (r := fun x y => x < s.length ∧ y < s.length ∧ (x / 2 = e ↔ y / 2 = e)) ⟨fun h => ⟨h, h, Iff.rfl⟩, fun h => ⟨h.2.1, h.1, h.2.2.symm⟩, fun h k => ⟨h.1, k.2.1, h.2.2.trans k.2.2⟩, fun h => h.1⟩ (fun x hx => by
        refine ⟨hx, hpm.lt hx, ⟨fun e1 => ?_, fun e1 => ?_⟩⟩
        · rcases own _ e1 with rfl | rfl
          · rw [pa, k2]; omega
          · rw [pb, k1]; omega
        · rcases own _ e1 with k | k
          · have := hpm.inj hx hB (by rw [pb, k1]; exact k); omega
          · have := hpm.inj hx hA (by rw [pa, k2]; exact k); omega) hz
      exact this.2.2.1 (by omega)
  unfold cutLone shrLone
  by_cases hboth : at' s (2 * e) = 2 * e ∧ at' s (2 * e + 1) = 2 * e + 1
  · have hnm : nth (namesL (phiL s)) (2 * e) = nth (namesL (phiL s)) (2 * e + 1) := by
      have := (namesL_ord hp).rel (2 * e) (2 * e + 1) (by rw [hl]; exact hA) (by rw [hl]; exact hB)
      rw [hl] at this
      exact this.2 (by have := hst _ hA; rwa [pa, hboth.2] at this)
    rw [decide_eq_true hnm, fa.2 hboth, va.2 hboth.1, vb.2 hboth.2]
    rfl
  · have h1 : bareB (phiL s) e (2 * e) = false := Bool.eq_false_iff.2 fun h => hboth (fa.1 h)
    have h2 : (bareB s e (2 * e) && bareB s e (2 * e + 1)) = false := Bool.eq_false_iff.2 fun h => by
      rw [Bool.and_eq_true] at h
      exact hboth ⟨va.1 h.1, vb.1 h.2⟩
    have h3 : (!decide (nth (namesL (phiL s)) (2 * e) = nth (namesL (phiL s)) (2 * e + 1)) && bareB (phiL s) e (2 * e + 1)) = false := Bool.eq_false_iff.2 fun h => by
      rw [Bool.and_eq_true] at h
      -- a face of the odd dart alone: its next is itself, so the vertices are one
      have hb := (bare_iff hp (by rw [hl]; exact hn) (by rw [hl]; exact hB)).1 h.2
      rw [hl] at hb
      have h4 := hb _ (hst _ hB)
      rw [pb] at h4
      rcases own _ h4 with k | k
      · have h5 := hb _ (hpe.trans (hst _ hB) (by rw [pb, k]; exact hst _ hA))
        rw [pa] at h5
        rcases own _ h5 with k5 | k5
        · exact nn (hq.symm (by have := hs.pm.step hB; rwa [k5] at this))
        · exact hboth ⟨k, k5⟩
      · exact nn (by have := hs.pm.step hA; rwa [k] at this)
    rw [h1, h2, h3]
    rfl
end
end Go.Proofs.Ytnbecpeiodcohaa

namespace Go.Proofs.Ytnbecpeiodcohaa
set_option linter.unusedVariables false

/-- by other names t -/
def relL (s t : List Nat) : List Nat := (List.range s.length).map fun j => at' t (at' s (at' (invL t) j))
theorem relL_length (s t : List Nat) : (relL s t).length = s.length := by simp [relL]
theorem relL_at {s t : List Nat} {j : Nat} (h : j < s.length) : at' (relL s t) j = at' t (at' s (at' (invL t) j)) := by simp [relL, at', h]
/-- do the names keep mates? -/
def Mates (t : List Nat) : Prop := ∀ d, d < t.length → at' t (d ^^^ 1) = at' t d ^^^ 1
section
variable {s t : List Nat} (hs : IsPerm s) (ht : IsPerm t) (hl : t.length = s.length)
include hs ht hl
theorem relL_perm : IsPerm (relL s t) := by
  refine IsPerm.of_inj (fun i hi => ?_) (fun i j hi hj e => ?_)
  · rw [relL_length] at hi ⊢
    rw [relL_at hi, ← hl]
    exact ht.lt (by rw [hl]; exact hs.lt (by rw [← hl]; exact (at_invL ht (by rw [hl]; exact hi)).2))
  · rw [relL_length] at hi hj
    have h1 := (at_invL ht (y := i) (by rw [hl]; exact hi))
    have h2 := (at_invL ht (y := j) (by rw [hl]; exact hj))
    rw [relL_at hi, relL_at hj] at e
    have e1 := ht.inj (by rw [hl]; exact hs.lt (by rw [← hl]; exact h1.2)) (by rw [hl]; exact hs.lt (by rw [← hl]; exact h2.2)) e
    have e2 := hs.inj (by rw [← hl]; exact h1.2) (by rw [← hl]; exact h2.2) e1
    rw [← h1.1, ← h2.1, e2]
end
theorem relL_to {s t : List Nat} (ht : IsPerm t) (hl : t.length = s.length) {d : Nat} (hd : d < s.length) : at' (relL s t) (at' t d) = at' t (at' s d) := by
  have hd' : d < t.length := by rw [hl]; exact hd
  rw [relL_at (by rw [← hl]; exact ht.lt hd'), invL_at ht hd']

/-- named so far -/
def relGo (s t : List Nat) (i : Nat) : List Int := (List.range s.length).map fun j => if at' (invL t) j < i then ((at' t (at' s (at' (invL t) j)) : Nat) : Int) else 0
theorem relGo_length (s t : List Nat) (i : Nat) : (relGo s t i).length = s.length := by simp [relGo]
theorem relGo_zero (s t : List Nat) : relGo s t 0 = List.replicate s.length 0 := by
  refine List.ext_getElem (by simp [relGo]) fun i h1 h2 => ?_
  simp [relGo]
theorem relGo_set {s t : List Nat} (ht : IsPerm t) (hl : t.length = s.length) {i : Nat} (hi : i < s.length) : (relGo s t i).set (at' t i) ((at' t (at' s i) : Nat) : Int) = relGo s t (i + 1) := by
  refine List.ext_getElem (by simp [relGo]) fun j h1 h2 => ?_
  have hj : j < s.length := by simp [relGo] at h2; exact h2
  rw [List.getElem_set]
  have hit : i < t.length := by rw [hl]; exact hi
  have h := at_invL ht (y := j) (by rw [hl]; exact hj)
  by_cases e1 : at' t i = j
  · subst e1
    rw [if_pos rfl]
    simp only [relGo, List.getElem_map, List.getElem_range, invL_at ht hit]
    rw [if_pos (by omega)]
  · rw [if_neg e1]
    simp only [relGo, List.getElem_map, List.getElem_range]
    by_cases h3 : at' (invL t) j < i
    · rw [if_pos h3, if_pos (by omega)]
    · have : at' (invL t) j ≠ i := fun e' => e1 (by rw [← e', h.1])
      rw [if_neg h3, if_neg (by omega)]
theorem relGo_all {s t : List Nat} (ht : IsPerm t) (hl : t.length = s.length) : relGo s t s.length = toI (relL s t) := by
  unfold relGo relL toI
  rw [List.map_map]
  refine List.map_congr_left fun j hj => ?_
  rw [if_pos (by rw [← hl]; exact (at_invL ht (by rw [hl]; exact List.mem_range.1 hj)).2)]
  rfl
theorem relRoot {s t : List Nat} {root lone : Int} (h : MapOk s root lone) (ht : IsPerm t) (hl : t.length = s.length) : MapOk (relL s t) (atI t root) lone := by
  obtain ⟨h1, h2, h3, h4, h5⟩ := h
  have hrl := relL_length s t
  refine ⟨by rw [hrl]; exact h1, by rw [hrl]; exact h2, h3, h4, ?_⟩
  rcases h5 with ⟨h5, rfl⟩ | ⟨h5, h6⟩
  · left; exact ⟨by rw [hrl]; exact h5, atI_out (Or.inl (by omega))⟩
  · right
    obtain ⟨k, rfl⟩ := Int.eq_ofNat_of_zero_le h5
    have hk : k < t.length := by omega
    rw [atI_in hk, hrl]
    have := ht.lt hk
    omega

end Go.Proofs.Ytnbecpeiodcohaa
