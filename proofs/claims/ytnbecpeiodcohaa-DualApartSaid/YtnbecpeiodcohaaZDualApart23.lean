/- parquetrylaw10: made, awake. Conditions: the bytes lie in memory. The dual has the same parts, of the same genus; the dual's dual is the map, the mirror's mirror too. Conditions: none. Shrunk in the map, an edge is cut in the dual. Conditions: none. Edges are cut in any order; cut, a map has as many vertices, those that are left bare counted. Conditions: none. Cut, a map has as many vertices, those that are left bare counted. Conditions: none. parquetrylaw10.DualApart, the walk: it answers true. Conditions: the bytes lie in memory. -/
import Derived.Test.YtnbecpeiodcohaaZDualApart13
import Derived.Test.YtnbecpeiodcohaaZDualApart22
import Derived.Test.YtnbecpeiodcohaaZDualApart21
import Derived.Test.YtnbecpeiodcohaaZDualApart18
namespace Go.Proofs.Ytnbecpeiodcohaa
open Go.RowKit
set_option linter.unusedVariables false

set_option maxRecDepth 100000 in
set_option maxHeartbeats 2000000 in
theorem made10_any (R : Reg) (w : World) (hI : Inv R w) (n rt ln : Nat) (hn : n ≤ 255) (hr : rt ≤ 255) (hl : ln ≤ 255) (v : Value) (bs : List Nat) (hv : FreeB R w v bs) :
    Calls Try.prog 42 #[.int .u8 (n : Int), v, .int .u8 (rt : Int), .int .u8 (ln : Int)] w (MadeMap R w (mixL (2 * (n % 12)) bs) (anyRoot (n % 12) rt) ((ln % 3 : Nat) : Int)) := by
  have he0 : Ev R w R (w.alloc (.cells #[.slice none 0 0, .int .i64 0, .int .i64 0] 27)) := (Ev.refl hI).alloc _
  have hm := rany_any R _ he0.inv (n % 12) (by omega) v bs (hv.ev he0) rt hr
  have hok := made_ok (n % 12) rt bs (ln % 3) (by omega) (by omega)
  have hS := mixL_perm (2 * (n % 12)) bs
  rw [show ((n % 12 : Nat) : Int) = (n : Int) % 12 from by omega] at hm
  obtain ⟨S, hSe⟩ : ∃ S, mixL (2 * (n % 12)) bs = S := ⟨_, rfl⟩
  obtain ⟨r, hre⟩ : ∃ r, anyRoot (n % 12) rt = r := ⟨_, rfl⟩
  rw [show ((ln % 3 : Nat) : Int) = (ln : Int) % 3 from by omega] at hok ⊢
  rw [hSe, hre] at hm hok ⊢
  rw [hSe] at hS
  have HM := Lib.hid hm
  have HOK := Lib.hid hok
  have HS := Lib.hid hS
  have HE0 := Lib.hid he0
  have HI := Lib.hid hI
  obtain ⟨a0, c0, rfl, _⟩ := hv
  clear hm he0 hI hSe hre hok hS
  go_enter Try.func42, Try.ntmps42
  go_wp2_with fail
  refine HM.out.mono ?_
  rintro e w1 ⟨a1, c1, rfl, he1, ho1⟩
  unfold refV
  have hz := he1.size
  simp only [World.size_alloc] at hz
  have hc0 : w1.heap[w.heap.size]? = some (.cells #[.slice none 0 0, .int .i64 0, .int .i64 0] 27 (0, 0)) := by
    rw [he1.block _ (by simp) (HI.out.none_of_ge (Nat.le_refl _))]
    exact heap_alloc_new w _
  have he2 := (HE0.out.trans he1).alloc (.cells #[.slice a1 S.length c1, .int .i64 r, .int .i64 ((ln : Int) % 3)] 27)
  have ho2 := ho1.alloc (.cells #[.slice a1 S.length c1, .int .i64 r, .int .i64 ((ln : Int) % 3)] 27)
  have hnew := new_yes R _ he2.inv (.slice a1 S.length c1) S ho2.free r ((ln : Int) % 3) HS.out HOK.out
  have HN := Lib.hid hnew
  have HE1 := Lib.hid (HE0.out.trans he1)
  have HE2 := Lib.hid he2
  have HO2 := Lib.hid ho2
  have HC0 := Lib.hid hc0
  clear he1 ho1 he2 ho2 hnew hc0
  go_wp2_with fail
  refine HN.out.mono ?_
  rintro e w2 ⟨p, R2, rfl, he3, hm3⟩
  have hsz1 : w1.heap.size + 1 ≤ w2.heap.size := by have := he3.size; simpa using this
  have hb1 : w2.heap[w1.heap.size]? = some (.cells #[.slice a1 S.length c1, .int .i64 r, .int .i64 ((ln : Int) % 3)] 27 (0, 0)) := by
    rw [he3.block _ (by simp) (HE1.out.inv.none_of_ge (Nat.le_refl _))]
    exact heap_alloc_new w1 _
  have hb0 : w2.heap[w.heap.size]? = some (.cells #[.slice none 0 0, .int .i64 0, .int .i64 0] 27 (0, 0)) := by
    rw [he3.block _ (by simp; omega) (HI.out.none_of_ge (Nat.le_refl _)), Below.heap_alloc _ _ _ (by omega)]
    exact HC0.out
  have k0 : w2.cell? ⟨w1.heap.size, 0, none⟩ = some (.slice a1 S.length c1) := by simp [World.cell?, hb1]
  have k1 : w2.cell? ⟨w1.heap.size, 1, none⟩ = some (.int .i64 r) := by simp [World.cell?, hb1]
  have k2 : w2.cell? ⟨w1.heap.size, 2, none⟩ = some (.int .i64 ((ln : Int) % 3)) := by simp [World.cell?, hb1]
  have j0 : w2.cell? ⟨w.heap.size, 0, none⟩ = some (.slice none 0 0) := by simp [World.cell?, hb0]
  have j1 : w2.cell? ⟨w.heap.size, 1, none⟩ = some (.int .i64 0) := by simp [World.cell?, hb0]
  have j2 : w2.cell? ⟨w.heap.size, 2, none⟩ = some (.int .i64 0) := by simp [World.cell?, hb0]
  have z0 : ∀ o, w2.frozen? ⟨w.heap.size, o, none⟩ = false := fun o => by simp [World.frozen?, hb0]
  have HB0 := Lib.hid hb0
  have HE3 := Lib.hid he3
  have HM3 := Lib.hid hm3
  have hn2 : R2 w.heap.size = none := he3.free _ (by simp; omega) (HI.out.none_of_ge (Nat.le_refl _))
  have HN2 := Lib.hid hn2
  clear hb0 hb1 he3 hm3 hn2
  go_wp2_with fail
  go_region
  all_goals go_wp2_with fail
  have hb3 := set3 (x := .slice a1 S.length c1) (y := .int .i64 r) (z := .int .i64 ((ln : Int) % 3)) HB0.out
  have w0 : ((((w2.setCell ⟨w.heap.size, 0, none⟩ (.slice a1 S.length c1)).setCell ⟨w.heap.size, 1, none⟩ (.int .i64 r)).setCell ⟨w.heap.size, 2, none⟩ (.int .i64 ((ln : Int) % 3))).drew).cell? ⟨w.heap.size, 0, none⟩ = some (.slice a1 S.length c1) := by rw [World.cell?_drew, cells_at hb3]; rfl
  have w1' : ((((w2.setCell ⟨w.heap.size, 0, none⟩ (.slice a1 S.length c1)).setCell ⟨w.heap.size, 1, none⟩ (.int .i64 r)).setCell ⟨w.heap.size, 2, none⟩ (.int .i64 ((ln : Int) % 3))).drew).cell? ⟨w.heap.size, 1, none⟩ = some (.int .i64 r) := by rw [World.cell?_drew, cells_at hb3]; rfl
  have w2' : ((((w2.setCell ⟨w.heap.size, 0, none⟩ (.slice a1 S.length c1)).setCell ⟨w.heap.size, 1, none⟩ (.int .i64 r)).setCell ⟨w.heap.size, 2, none⟩ (.int .i64 ((ln : Int) % 3))).drew).cell? ⟨w.heap.size, 2, none⟩ = some (.int .i64 ((ln : Int) % 3)) := by rw [World.cell?_drew, cells_at hb3]; rfl
  refine bodyPost_ret (v := .tuple #[p, refV (.slice a1 S.length c1) r ((ln : Int) % 3)]) ?_ rfl ⟨p, a1, c1, R2, rfl, ?_, HM3.out, ?_⟩
  · simp only [World.cell?_drew] at w0 w1' w2'
    simp [results, Try.results42, go_sem, w0, w1', w2', refV]
  · exact ((((HE2.out.trans HE3.out).setCell (Nat.le_refl _) HN2.out _).setCell (Nat.le_refl _) HN2.out _).setCell (Nat.le_refl _) HN2.out _).drew
  · have ho3 := HO2.out.ev HE3.out
    have hne : ∀ (o : Nat), (Value.slice a1 S.length c1).ownBlock ≠ some (⟨w.heap.size, o, none⟩ : Addr).block := fun o e => by
      have h : w.heap.size + 1 ≤ w.heap.size := by have := (ho3.lt _ e).1; simpa using this
      omega
    exact ((((ho3.setCell (hne 0) _).setCell (hne 1) _).setCell (hne 2) _).drew).free

theorem d10a : (sizesL (phiL [0, 1])).length = 1 := by decide
theorem d10b : (sizesL (phiL (phiL [0, 1]))).length = 2 := by decide
theorem d10c : cutLone [0, 1] 0 = 2 := by decide
theorem d10d : shrLone [0, 1] 0 = 1 := by decide
theorem d10e : nth (namesL [0, 1]) 0 ≠ nth (namesL [0, 1]) 1 := by decide

set_option maxRecDepth 100000 in
set_option maxHeartbeats 2000000 in
theorem awake10_any (R : Reg) (w : World) (hI : Inv R w) : Calls Try.prog 41 #[] w (RetTrue R w) := by
  have hok1 : MapOk [0, 1] 0 0 := by unfold MapOk; simp
  have h1 := new_yes R _ (hI.alloc _) _ [0, 1] (FreeI.two hI 0 1) 0 0 perm01 hok1
  have H1 := Lib.hid h1
  have HI := Lib.hid hI
  clear h1 hI hok1
  go_enter Try.func41, Try.ntmps41
  go_wp2_with fail
  refine H1.out.mono ?_
  rintro e w1 ⟨p, R1, rfl, he1, hp⟩
  have he1' := ((Ev.refl HI.out).alloc (.cells #[.int .i64 0, .int .i64 1] 3)).trans he1
  have HDu := Lib.hid (dual_any R1 w1 he1.inv p [0, 1] 0 0 hp)
  have HP := Lib.hid hp
  have HE1 := Lib.hid he1'
  clear he1 he1' hp
  go_wp2_with fail
  refine HDu.out.mono ?_
  rintro e w2 ⟨d, R2, rfl, he2, hd⟩
  have hc := cut_any R2 w2 he2.inv p [0, 1] 0 0 (he2.map HP.out) 0 (by decide) (by decide)
  rw [d10c] at hc
  have HCu := Lib.hid hc
  have HE2 := Lib.hid (HE1.out.trans he2)
  have HD2 := Lib.hid hd
  have HP2 := Lib.hid (he2.map HP.out)
  clear he2 hd hc HP HE1
  go_wp2_with fail
  refine HCu.out.mono ?_
  rintro e w3 ⟨c, R3, rfl, he3, hc⟩
  have hs := shrink_any R3 w3 he3.inv p [0, 1] 0 0 (he3.map HP2.out) 0 (by decide) (by decide) d10e
  rw [d10d] at hs
  have HSh := Lib.hid hs
  have HE3 := Lib.hid (HE2.out.trans he3)
  have HC3 := Lib.hid hc
  have HD3 := Lib.hid (he3.map HD2.out)
  clear he3 hc hs HP2 HE2 HD2
  go_wp2_with fail
  refine HSh.out.mono ?_
  rintro e w4 ⟨q, R4, rfl, he4, hq⟩
  have hv := vertices_any R4 w4 he4.inv d (phiL [0, 1]) 0 0 (he4.map HD3.out)
  rw [d10a] at hv
  have HV := Lib.hid hv
  have HE4 := Lib.hid (HE3.out.trans he4)
  have HC4 := Lib.hid (he4.map HC3.out)
  have HD4 := Lib.hid (he4.map HD3.out)
  have HQ4 := Lib.hid hq
  clear he4 hv hq HE3 HC3 HD3
  go_wp2_with fail
  refine HV.out.mono ?_
  rintro e w5 ⟨rfl, R5, he5⟩
  have hb := borders_any R5 w5 he5.inv d (phiL [0, 1]) 0 0 (he5.map HD4.out)
  rw [d10b] at hb
  have HB := Lib.hid hb
  have HE5 := Lib.hid (HE4.out.trans he5)
  have HC5 := Lib.hid (he5.map HC4.out)
  have HQ5 := Lib.hid (he5.map HQ4.out)
  clear he5 hb
  go_wp2_with fail
  refine HB.out.mono ?_
  rintro e w6 ⟨rfl, R6, he6⟩
  have HL1 := Lib.hid (lone_any R6 w6 he6.inv c _ _ _ (he6.map HC5.out))
  have HL2 := Lib.hid (lone_any R6 w6 he6.inv q _ _ _ (he6.map HQ5.out))
  have HE6 := Lib.hid (HE5.out.trans he6)
  clear he6
  go_wp2_with fail
  refine HL1.out.mono ?_
  rintro e w' ⟨rfl, rfl⟩
  go_wp2_with fail
  refine HL2.out.mono ?_
  rintro e w' ⟨rfl, rfl⟩
  go_wp2_with fail
  go_ret
  exact ⟨rfl, R6, HE6.out⟩

end Go.Proofs.Ytnbecpeiodcohaa

namespace Go.Proofs.Ytnbecpeiodcohaa
set_option linter.unusedVariables false

theorem eq_at {s t : List Nat} (h : s.length = t.length) (hk : ∀ j, j < s.length → at' s j = at' t j) : s = t := by
  refine List.ext_getElem h fun i h1 h2 => ?_
  have := hk i h1
  simpa [at', h1, h2] using this

section
variable {s : List Nat} (hs : IsPerm s) (he : s.length % 2 = 0)

include he in
theorem phi_phi : phiL (phiL s) = s := by
  refine eq_at (by rw [phiL_length, phiL_length]) fun j hj => ?_
  rw [phiL_length, phiL_length] at hj
  rw [phiL_at (by rw [phiL_length]; exact hj), phiL_at (xor_one_lt he hj), xor_one_one]

include hs in
theorem inv_inv : invL (invL s) = s := by
  have hi := invL_perm hs
  refine eq_at (by rw [invL_length, invL_length]) fun j hj => ?_
  rw [invL_length, invL_length] at hj
  have h := (at_invL hi (y := j) (by rw [invL_length]; exact hj))
  rw [invL_length] at h
  refine hi.inj (by rw [invL_length]; exact h.2) (by rw [invL_length]; exact hs.lt hj) ?_
  rw [h.1, invL_at hs hj]

include hs he
theorem con_phi_sub {x y : Nat} (h : Con (phiL s) x y) : Con s x y := by
  refine Con.sub (phiL_perm hs he) (r := Con s) (by rw [phiL_length]; exact Con.per hs) (fun z hz => ?_) (fun z hz => ?_) h
  · rw [phiL_length] at hz
    rw [phiL_at hz]
    exact (Con.per hs).trans (Con.mate hs he hz) (Con.step hs (xor_one_lt he hz))
  · rw [phiL_length] at hz
    exact Con.mate hs he hz
theorem con_phi (x y : Nat) (hx : x < s.length) (hy : y < s.length) : Con (phiL s) x y ↔ Con s x y := by
  refine ⟨con_phi_sub hs he, fun h => ?_⟩
  have := con_phi_sub (phiL_perm hs he) (by rw [phiL_length]; exact he) (x := x) (y := y)
  rw [phi_phi he] at this
  exact this h
theorem partsL_phi : partsL (phiL s) = partsL s := by
  have h1 := partsL_ord (phiL_perm hs he) (by rw [phiL_length]; exact he)
  rw [phiL_length] at h1
  exact (h1.congr (con_phi hs he)).unique (partsL_ord hs he)
theorem partsN_phi : partsN (phiL s) = partsN s := by
  have h1 := partsL_ord (phiL_perm hs he) (by rw [phiL_length]; exact he)
  rw [phiL_length] at h1
  have a := (h1.congr (con_phi hs he)).cnt_eq (Nat.le_refl _)
  have b := (partsL_ord hs he).cnt_eq (Nat.le_refl _)
  unfold partsN
  rw [phiL_length]
  exact a.trans b.symm
theorem genOf_phi (k : Nat) : genOf (phiL s) (partsL (phiL s)) k = genOf s (partsL s) k := by
  unfold genOf
  rw [partsL_phi hs he, phiL_length, phi_phi he]
  congr 1
  omega
theorem genusTo_phi : ∀ k, genusTo (phiL s) k = genusTo s k
  | 0 => rfl
  | k + 1 => by unfold genusTo; rw [genusTo_phi k, genOf_phi hs he]
theorem genusL_phi : genusL (phiL s) = genusL s := by
  unfold genusL; rw [partsN_phi hs he, genusTo_phi hs he]
end
end Go.Proofs.Ytnbecpeiodcohaa

namespace Go.Proofs.Ytnbecpeiodcohaa
set_option linter.unusedVariables false

theorem unL_mate (e j : Nat) : unL e (j ^^^ 1) = unL e j ^^^ 1 := by
  rw [xor_one j, xor_one (unL e j)]
  unfold unL
  repeat' split
  all_goals omega
theorem mate_own {d e : Nat} : (d ^^^ 1) / 2 = e ↔ d / 2 = e := by
  have h := xor_one d
  rw [h]
  split <;> omega
theorem exI_own {e i : Nat} (h : i / 2 = e) : exI e i = i ^^^ 1 := by
  rw [xor_one]; unfold exI
  repeat' split
  all_goals omega
theorem exI_else {e i : Nat} (h : ¬ i / 2 = e) : exI e i = i := by
  unfold exI; split <;> (try split) <;> omega

/-- passing asks for the edge's own darts alone -/
theorem pass_same {t u : List Nat} {e : Nat} (h : ∀ d, d / 2 = e → at' t d = at' u d) (x : Nat) : passN t e x = passN u e x := by
  have key : ∀ f x, passF t e f x = passF u e f x := fun f => by
    induction f with
    | zero => intro x; rfl
    | succ f ih =>
      intro x
      unfold passF
      by_cases hx : x / 2 = e
      · rw [if_pos hx, if_pos hx, h x hx, ih]
      · rw [if_neg hx, if_neg hx]
  exact key 2 x

theorem turn_shrink {s : List Nat} (hs : IsPerm s) (he : s.length % 2 = 0) {e : Nat} (hn : 2 * e + 2 ≤ s.length) : phiL (doneL (exL s e) e) = doneL (phiL s) e := by
  have hl : (doneL (exL s e) e).length = s.length - 2 := by rw [doneL_length, exL_length]
  refine eq_at (by rw [phiL_length, hl, doneL_length, phiL_length]) fun j hj => ?_
  rw [phiL_length, hl] at hj
  have hjm : (j ^^^ 1) < s.length - 2 := xor_one_lt (by omega) hj
  have hd : unL e j < s.length := unL_lt hn hj
  have hdm : (unL e j ^^^ 1) < s.length := xor_one_lt he hd
  rw [phiL_at (by rw [hl]; exact hj), doneL_at (by rw [exL_length]; exact hjm), doneL_at (by rw [phiL_length]; exact hj), unL_mate, phiL_at hd, exL_at hdm, exI_else (fun h => unL_own (mate_own.1 h))]
  congr 1
  refine pass_same (fun d hd => ?_) _
  have hdl : d < s.length := by omega
  rw [exL_at hdl, exI_own hd, phiL_at hdl]

end Go.Proofs.Ytnbecpeiodcohaa

namespace Go.Proofs.Ytnbecpeiodcohaa
set_option linter.unusedVariables false

/-- the first dart behind d that is none of Q's -/
inductive Way (s : List Nat) (Q : Nat → Prop) : Nat → Nat → Prop
  | one {d : Nat} : ¬ Q (at' s d) → Way s Q d (at' s d)
  | more {d y : Nat} : Q (at' s d) → Way s Q (at' s d) y → Way s Q d y
theorem Way.not {s : List Nat} {Q : Nat → Prop} {d y : Nat} (h : Way s Q d y) : ¬ Q y := by
  induction h with
  | one h => exact h
  | more _ _ ih => exact ih
theorem Way.same {s : List Nat} {Q : Nat → Prop} {d y z : Nat} (h : Way s Q d y) : Way s Q d z → y = z := by
  induction h with
  | one h => intro k; cases k with
    | one _ => rfl
    | more k _ => exact absurd k h
  | more h _ ih => intro k; cases k with
    | one k => exact absurd h k
    | more _ k => exact ih k
theorem Way.congr {s : List Nat} {Q Q' : Nat → Prop} (hq : ∀ x, Q x ↔ Q' x) {d y : Nat} (h : Way s Q d y) : Way s Q' d y := by
  induction h with
  | one h => exact .one fun k => h ((hq _).2 k)
  | more h _ ih => exact .more ((hq _).1 h) ih
/-- more is passed by -/
theorem Way.stop {s : List Nat} {Q P : Nat → Prop} {d y : Nat} (h : Way s Q d y) (hp : ¬ P y) : Way s (fun x => Q x ∨ P x) d y := by
  induction h with
  | one h => exact .one fun k => k.elim h hp
  | more h _ ih => exact .more (Or.inl h) (ih hp)
theorem Way.go {s : List Nat} {Q P : Nat → Prop} {d y z : Nat} (h : Way s Q d y) (hp : P y) (k : Way s (fun x => Q x ∨ P x) y z) : Way s (fun x => Q x ∨ P x) d z := by
  induction h with
  | one h => exact .more (Or.inr hp) k
  | more h _ ih => exact .more (Or.inl h) (ih hp k)
theorem Way.it {s : List Nat} {Q : Nat → Prop} {d y : Nat} (h : Way s Q d y) : ∃ m, itf (at' s) (m + 1) d = y ∧ ∀ j, 1 ≤ j → j ≤ m → Q (itf (at' s) j d) := by
  induction h with
  | one h => exact ⟨0, rfl, fun j h1 h2 => by omega⟩
  | more h _ ih =>
    obtain ⟨m, e, hq⟩ := ih
    refine ⟨m + 1, e, fun j h1 h2 => ?_⟩
    cases j with
    | zero => omega
    | succ j =>
      cases j with
      | zero => exact h
      | succ j => exact hq (j + 1) (by omega) (by omega)

section
variable {s : List Nat} (hs : IsPerm s)
include hs
theorem pass_way {e d : Nat} (hd : d < s.length) (ho : ¬ d / 2 = e) : Way s (fun x => x / 2 = e) d (passN s e (at' s d)) := by
  have hp := (pass_ok hs hd ho).1
  rcases pass_cases s e (at' s d) with ⟨a, b⟩ | ⟨a, a2, b⟩ | ⟨a, a2, b⟩
  · rw [b]; exact .one a
  · rw [b]; exact .more a (.one a2)
  · rw [b] at hp ⊢; exact .more a (.more a2 (.one hp))
theorem done_way {e j : Nat} (hn : 2 * e + 2 ≤ s.length) (hj : j < s.length - 2) : Way s (fun x => x / 2 = e) (unL e j) (unL e (at' (doneL s e) j)) := by
  rw [doneL_at hj, un_nm (pass_ok hs (unL_lt hn hj) unL_own).1]
  exact pass_way hs (unL_lt hn hj) unL_own
/-- a way in the map with an edge less is one in the map -/
theorem way_done {k : Nat} (hn : 2 * k + 2 ≤ s.length) {P P' : Nat → Prop} (hP : ∀ x, x < s.length - 2 → (P x ↔ P' (unL k x))) {j z : Nat} (hj : j < s.length - 2) (h : Way (doneL s k) P j z) : Way s (fun x => x / 2 = k ∨ P' x) (unL k j) (unL k z) ∧ z < s.length - 2 := by
  have hp := doneL_perm hs hn
  induction h with
  | @one d h =>
    have hl := hp.lt (i := d) (by rw [doneL_length]; exact hj)
    rw [doneL_length] at hl
    exact ⟨(done_way hs hn hj).stop fun k => h ((hP _ hl).2 k), hl⟩
  | @more d y h _ ih =>
    have hl := hp.lt (i := d) (by rw [doneL_length]; exact hj)
    rw [doneL_length] at hl
    obtain ⟨h1, h2⟩ := ih hl
    exact ⟨(done_way hs hn hj).go ((hP _ hl).1 h) h1, h2⟩

/-- of two edges it doesn't matter which is cut first -/
theorem cut_cut {i k : Nat} (hik : i < k) (hn : 2 * k + 2 ≤ s.length) : doneL (doneL s k) i = doneL (doneL s i) (k - 1) := by
  have hpk := doneL_perm hs hn
  have hpi := doneL_perm hs (e := i) (by omega)
  have hlk := doneL_length s k
  have hli := doneL_length s i
  have hun : ∀ j, unL k (unL i j) = unL i (unL (k - 1) j) := fun j => by
    unfold unL; repeat' split
    all_goals omega
  refine eq_at (by simp only [doneL_length]) fun j hj => ?_
  rw [doneL_length, hlk] at hj
  have w1 := done_way hpk (e := i) (j := j) (by omega) (by omega)
  have w2 := done_way hpi (e := k - 1) (j := j) (by omega) (by omega)
  have h1 := way_done hs hn (P := fun x => x / 2 = i) (P' := fun x => x / 2 = i) (fun x _ => by unfold unL; split <;> omega) (unL_lt (n := s.length - 2) (by omega) (by omega)) w1
  have h2 := way_done hs (k := i) (by omega) (P := fun x => x / 2 = k - 1) (P' := fun x => x / 2 = k) (fun x _ => by unfold unL; split <;> omega) (unL_lt (n := s.length - 2) (by omega) (by omega)) w2
  rw [hun, hun] at h1
  have h3 := h1.1.congr (Q' := fun x => x / 2 = i ∨ x / 2 = k) fun x => Or.comm
  exact unL_inj (unL_inj (h3.same h2.1))
end
end Go.Proofs.Ytnbecpeiodcohaa

namespace Go.Proofs.Ytnbecpeiodcohaa
set_option linter.unusedVariables false

theorem it_itf (s : List Nat) : ∀ (j x : Nat), it s j x = itf (at' s) j x
  | 0, _ => rfl
  | j + 1, x => it_itf s j (at' s x)
theorem sizesL_tally {s : List Nat} (hs : IsPerm s) : (sizesL s).length = tally (Least (cyc s.length (at' s))) s.length := by
  have h1 := sizesGo_length hs s.length (Nat.le_refl _)
  have h2 := (namesL_ord hs).cnt_eq (Nat.le_refl s.length)
  have e : sizesGo s s.length = sizesL s := by unfold sizesGo sizesL; rw [List.take_of_length_le (by rw [namesL_length]; exact Nat.le_refl _)]
  rw [← e, h1]
  exact h2
theorem tally_two {p : Nat → Prop} {n a b : Nat} (ha : a < n) (hb : b < n) (hab : a ≠ b) (h : ∀ x, x < n → p x → x = a ∨ x = b) : tally p n = ind (p a) + ind (p b) := by
  have none : ∀ {q : Nat → Prop}, (∀ x, x < n → q x → x = b) → ¬ q b → tally q n = 0 := fun h1 h2 => tally_none fun k hk hq => h2 (h1 k hk hq ▸ hq)
  have one : ∀ {q : Nat → Prop}, (∀ x, x < n → q x → x = b) → q b → tally q n = 1 := fun {q} h1 h2 => by
    rw [tally_but hb h2, tally_none fun k hk hq => hq.2 (h1 k hk hq.1)]
  by_cases h1 : p a
  · have e : tally p n = tally (fun k => p k ∧ k ≠ a) n + 1 := tally_but ha h1
    have hx : ∀ x, x < n → (p x ∧ x ≠ a) → x = b := fun x hx hp => (h x hx hp.1).resolve_left hp.2
    by_cases h2 : p b
    · have := one hx ⟨h2, fun e => hab e.symm⟩
      rw [ind_yes h1, ind_yes h2]; omega
    · have := none hx (fun k => h2 k.1)
      rw [ind_yes h1, ind_no h2]; omega
  · have hx : ∀ x, x < n → p x → x = b := fun x hx hp => (h x hx hp).resolve_left (fun e => h1 (e ▸ hp))
    by_cases h2 : p b
    · have := one hx h2
      rw [ind_no h1, ind_yes h2]; omega
    · have := none hx h2
      rw [ind_no h1, ind_no h2]; omega
theorem ind_oneIf {p : Prop} {b : Bool} (h : p ↔ b = true) : ((ind p : Nat) : Int) = oneIf b := by
  cases b with
  | true => rw [ind_yes (h.2 rfl)]; rfl
  | false => rw [ind_no (fun k => by have := h.1 k; cases this)]; rfl

section
variable {p n : Nat} {r q : Nat → Nat → Prop} {P : Nat → Prop} (hr : Per p r) (hq : Per n q) (f : Nat → Nat)
  (hf : ∀ x, x < p → f x < n ∧ P (f x)) (hb : ∀ y, y < n → P y → ∃ x, x < p ∧ q (f x) y) (hP : ∀ x y, P x → q x y → P y) (hrq : ∀ x y, x < p → y < p → (r x y ↔ q (f x) (f y)))
include hr hq hf hb hP hrq
/-- as many classes there as here, where each class there is met -/
theorem cls_cover : cls r (fun _ => True) p = cls q P n := by
  have hx : ∀ x, ∃ l, x < p → q l (f x) ∧ Least q l := fun x => by
    by_cases h : x < p
    · obtain ⟨l, _, h1, h2⟩ := hq.least (f x) (hf x h).1
      exact ⟨l, fun _ => ⟨h1, h2⟩⟩
    · exact ⟨0, fun h' => absurd h' h⟩
  have hy : ∀ y, ∃ l, y < n → P y → ∃ x, x < p ∧ q (f x) y ∧ r l x ∧ Least r l := fun y => by
    by_cases h : y < n ∧ P y
    · obtain ⟨x, h1, h2⟩ := hb y h.1 h.2
      obtain ⟨l, _, h3, h4⟩ := hr.least x h1
      exact ⟨l, fun _ _ => ⟨x, h1, h2, h3, h4⟩⟩
    · exact ⟨0, fun h1 h2 => absurd ⟨h1, h2⟩ h⟩
  refine Nat.le_antisymm ?_ ?_
  · refine tally_inj (fun x => Classical.choose (hx x)) (fun x hxp _ => ?_) (fun x y hxp hyp h1 h2 e => ?_)
    · obtain ⟨h1, h2⟩ := Classical.choose_spec (hx x) hxp
      exact ⟨hq.dom h1, hP _ _ (hf x hxp).2 (hq.symm h1), h2⟩
    · have e : Classical.choose (hx x) = Classical.choose (hx y) := e
      have a := (Classical.choose_spec (hx x) hxp).1
      have b := (Classical.choose_spec (hx y) hyp).1
      rw [e] at a
      exact hr.least_one h1.2 h2.2 ((hrq x y hxp hyp).2 (hq.trans (hq.symm a) b))
  · refine tally_inj (fun y => Classical.choose (hy y)) (fun y hyn h => ?_) (fun y z hyn hzn h1 h2 e => ?_)
    · obtain ⟨x, h1, h2, h3, h4⟩ := Classical.choose_spec (hy y) hyn h.1
      exact ⟨hr.dom h3, trivial, h4⟩
    · have e : Classical.choose (hy y) = Classical.choose (hy z) := e
      obtain ⟨x, a1, a2, a3, _⟩ := Classical.choose_spec (hy y) hyn h1.1
      obtain ⟨x', b1, b2, b3, _⟩ := Classical.choose_spec (hy z) hzn h2.1
      rw [e] at a3
      have h := (hrq x x' a1 b1).1 (hr.trans (hr.symm a3) b3)
      exact hq.least_one h1.2 h2.2 (hq.trans (hq.symm a2) (hq.trans h b2))
end

theorem itf_plus (f : Nat → Nat) : ∀ (a b x : Nat), itf f (a + b) x = itf f b (itf f a x)
  | 0, b, x => by rw [Nat.zero_add]; rfl
  | a + 1, b, x => by rw [show a + 1 + b = (a + b) + 1 by omega]; exact itf_plus f a b (f x)

section
variable {s : List Nat} (hs : IsPerm s) {e : Nat} (hn : 2 * e + 2 ≤ s.length)
include hs hn

theorem cyc_done {x y : Nat} (hx : x < s.length - 2) (hy : y < s.length - 2) : cyc (s.length - 2) (at' (doneL s e)) x y ↔ cyc s.length (at' s) (unL e x) (unL e y) := by
  have hp : Pm (s.length - 2) (at' (doneL s e)) := by have := (doneL_perm hs hn).pm; rwa [doneL_length] at this
  have hq := hs.pm.per
  have hstep : ∀ z, z < s.length - 2 → ∃ m, itf (at' s) (m + 1) (unL e z) = unL e (at' (doneL s e) z) ∧ ∀ j, 1 ≤ j → j ≤ m → itf (at' s) j (unL e z) / 2 = e := fun z hz => (done_way hs hn hz).it
  constructor
  · have hper : Per (s.length - 2) (fun x y => x < s.length - 2 ∧ y < s.length - 2 ∧ cyc s.length (at' s) (unL e x) (unL e y)) :=
      ⟨fun h => ⟨h, h, hq.refl (unL_lt hn h)⟩, fun h => ⟨h.2.1, h.1, hq.symm h.2.2⟩, fun h k => ⟨h.1, k.2.1, hq.trans h.2.2 k.2.2⟩, fun h => h.1⟩
    intro h
    exact (hp.cyc_sub hper (fun z hz => by
      obtain ⟨m, e1, _⟩ := hstep z hz
      exact ⟨hz, hp.lt hz, unL_lt hn hz, unL_lt hn (hp.lt hz), m + 1, e1⟩) h).2.2
  · rintro ⟨_, _, m, hm⟩
    induction m using Nat.strongRecOn generalizing x with
    | ind m ih =>
      cases m with
      | zero =>
        have : unL e x = unL e y := hm
        rw [unL_inj this]
        exact hp.per.refl hy
      | succ m =>
        obtain ⟨m1, e1, hown⟩ := hstep x hx
        by_cases hle : m1 ≤ m
        · have e2 : m + 1 = (m1 + 1) + (m - m1) := by omega
          rw [e2, itf_plus, e1] at hm
          exact hp.per.trans (hp.step hx) (ih (m - m1) (by omega) (hp.lt hx) (unL_lt hn (hp.lt hx)) hm)
        · have := hown (m + 1) (by omega) (by omega)
          rw [hm] at this
          exact absurd this unL_own

theorem bare_iff {d : Nat} (hd : d < s.length) : bareB s e d = true ↔ ∀ z, cyc s.length (at' s) d z → z / 2 = e := by
  have _h := hn
  unfold bareB ownB
  rw [List.all_eq_true]
  constructor
  · rintro h z ⟨_, _, j, hj⟩
    have := h z ((hs.mem_orbit hd).2 ⟨j, by rw [it_itf]; exact hj⟩)
    simpa using this
  · intro h y hy
    obtain ⟨j, hj⟩ := (hs.mem_orbit hd).1 hy
    have hl : y < s.length := by rw [← hj, it_itf]; exact hs.pm.it hd j
    have := h y ⟨hd, hl, j, by rw [← it_itf]; exact hj⟩
    simpa using this

theorem cut_vertices : (((sizesL (doneL s e)).length : Nat) : Int) + cutLone s e = ((sizesL s).length : Nat) := by
  have hq := hs.pm.per
  have hpd := doneL_perm hs hn
  have hr : Per (s.length - 2) (cyc (s.length - 2) (at' (doneL s e))) := by have := hpd.pm.per; rwa [doneL_length] at this
  have hA : 2 * e < s.length := by omega
  have hB : 2 * e + 1 < s.length := by omega
  have h1 : (sizesL (doneL s e)).length = cls (cyc (s.length - 2) (at' (doneL s e))) (fun _ => True) (s.length - 2) := by
    rw [sizesL_tally hpd, doneL_length]
    exact tally_congr fun k _ => ⟨fun h => ⟨trivial, h⟩, fun h => h.2⟩
  have h2 := cls_cover (P := fun y => ∃ z, cyc s.length (at' s) y z ∧ ¬ z / 2 = e) hr hq (unL e) (fun x hx => ⟨unL_lt hn hx, unL e x, hq.refl (unL_lt hn hx), unL_own⟩) (fun y hy hP => by
    obtain ⟨z, hz, ho⟩ := hP
    have hzl := hq.cod hz
    exact ⟨nmL e z, nmL_lt hn ho hzl, by rw [un_nm ho]; exact hq.symm hz⟩) (fun x y hx hxy => by
    obtain ⟨z, hz, ho⟩ := hx
    exact ⟨z, hq.trans (hq.symm hxy) hz, ho⟩) (fun x y hx hy => cyc_done hs hn hx hy)
  have h3 : (sizesL s).length = cls (cyc s.length (at' s)) (fun y => ∃ z, cyc s.length (at' s) y z ∧ ¬ z / 2 = e) s.length + tally (fun x => Least (cyc s.length (at' s)) x ∧ ¬ ∃ z, cyc s.length (at' s) x z ∧ ¬ z / 2 = e) s.length := by
    rw [sizesL_tally hs, tally_split _ (fun y => ∃ z, cyc s.length (at' s) y z ∧ ¬ z / 2 = e)]
    congr 1
    exact tally_congr fun k _ => And.comm
  have hown : ∀ x, x < s.length → (¬ ∃ z, cyc s.length (at' s) x z ∧ ¬ z / 2 = e) → x / 2 = e := fun x hx h => by
    by_cases ho : x / 2 = e
    · exact ho
    · exact absurd ⟨x, hq.refl hx, ho⟩ h
  have h4 := tally_two (p := fun x => Least (cyc s.length (at' s)) x ∧ ¬ ∃ z, cyc s.length (at' s) x z ∧ ¬ z / 2 = e) hA hB (by omega) (fun x hx hp => by have := hown x hx hp.2; omega)
  have hbare : ∀ d, d < s.length → (bareB s e d = true ↔ ¬ ∃ z, cyc s.length (at' s) d z ∧ ¬ z / 2 = e) := fun d hd => by
    rw [bare_iff hs hn hd]
    constructor
    · rintro h ⟨z, hz, ho⟩
      exact ho (h z hz)
    · intro h z hz
      by_cases ho : z / 2 = e
      · exact ho
      · exact absurd ⟨z, hz, ho⟩ h
  have hrel := (namesL_ord hs).rel (2 * e) (2 * e + 1) hA hB
  have hpa : (Least (cyc s.length (at' s)) (2 * e) ∧ ¬ ∃ z, cyc s.length (at' s) (2 * e) z ∧ ¬ z / 2 = e) ↔ bareB s e (2 * e) = true := by
    rw [hbare _ hA]
    exact ⟨fun h => h.2, fun h => ⟨fun y hy hc => h ⟨y, hq.symm hc, by omega⟩, h⟩⟩
  have hpb : (Least (cyc s.length (at' s)) (2 * e + 1) ∧ ¬ ∃ z, cyc s.length (at' s) (2 * e + 1) z ∧ ¬ z / 2 = e) ↔ (!decide (nth (namesL s) (2 * e) = nth (namesL s) (2 * e + 1)) && bareB s e (2 * e + 1)) = true := by
    rw [Bool.and_eq_true, hbare _ hB, Bool.not_eq_true', decide_eq_false_iff_not, hrel]
    constructor
    · exact fun h => ⟨fun k => h.1 (2 * e) (by omega) k, h.2⟩
    · refine fun h => ⟨fun y hy hc => ?_, h.2⟩
      by_cases hy2 : y = 2 * e
      · subst hy2; exact h.1 hc
      · exact h.2 ⟨y, hq.symm hc, by omega⟩
  rw [h1, h2, h3]
  unfold cutLone
  have ea := ind_oneIf hpa
  have eb := ind_oneIf hpb
  rw [← ea, ← eb, h4]
  omega
end

/-- dual and mirror, in any order: as many vertices -/
theorem mirror_vertices {s : List Nat} (hs : IsPerm s) (he : s.length % 2 = 0) : (sizesL (phiL (invL s))).length = (sizesL (invL (phiL s))).length := by
  have hpp := phiL_perm hs he
  have hi := invL_perm hs
  have hip := phiL_perm hi (by rw [invL_length]; exact he)
  have p1 : Per s.length (cyc s.length (at' (phiL s))) := by have := hpp.pm.per; rwa [phiL_length] at this
  have p2 : Per s.length (cyc s.length (at' (phiL (invL s)))) := by have := hip.pm.per; rwa [phiL_length, invL_length] at this
  have e1 : (sizesL (invL (phiL s))).length = cls (cyc s.length (at' (phiL s))) (fun _ => True) s.length := by
    rw [sizesL_tally (invL_perm hpp), invL_length, phiL_length]
    refine tally_congr fun k hk => ?_
    have hc := cyc_inv hpp
    rw [phiL_length] at hc
    have hl : Least (cyc s.length (at' (invL (phiL s)))) k ↔ Least (cyc s.length (at' (phiL s))) k :=
      ⟨fun h y hy hc' => h y hy ((hc y k (p1.dom hc') hk).2 hc'), fun h y hy hc' => h y hy ((hc y k (by omega) hk).1 hc')⟩
    exact ⟨fun h => ⟨trivial, hl.1 h⟩, fun h => hl.2 h.2⟩
  have e2 : (sizesL (phiL (invL s))).length = cls (cyc s.length (at' (phiL (invL s)))) (fun _ => True) s.length := by
    rw [sizesL_tally hip, phiL_length, invL_length]
    exact tally_congr fun k hk => ⟨fun h => ⟨trivial, h⟩, fun h => h.2⟩
  rw [e1, e2]
  exact Nat.le_antisymm (cls_mates p1 p2 he (P := fun _ => True) (fun _ _ _ _ => trivial) (fun _ _ => Iff.rfl) (cyc_phi_inv hs he))
    (cls_mates p2 p1 he (P := fun _ => True) (fun _ _ _ _ => trivial) (fun _ _ => Iff.rfl) (fun x y hx hy => by
      rw [cyc_phi_inv hs he _ _ (xor_one_lt he hx) (xor_one_lt he hy), xor_one_one, xor_one_one]))

end Go.Proofs.Ytnbecpeiodcohaa

namespace Go.Proofs.Ytnbecpeiodcohaa
open Go.RowKit
set_option linter.unusedVariables false

theorem cutLone_cut {s : List Nat} (hs : IsPerm s) {i k : Nat} (hik : i < k) (hn : 2 * k + 2 ≤ s.length) : cutLone s k + cutLone (doneL s k) i = cutLone s i + cutLone (doneL s i) (k - 1) := by
  have h1 := cut_vertices hs hn
  have h2 := cut_vertices (doneL_perm hs hn) (e := i) (by rw [doneL_length]; omega)
  have h3 := cut_vertices hs (e := i) (by omega)
  have h4 := cut_vertices (doneL_perm hs (e := i) (by omega)) (e := k - 1) (by rw [doneL_length]; omega)
  rw [cut_cut hs hik hn] at h2
  omega

set_option maxRecDepth 100000 in
set_option maxHeartbeats 16000000 in
theorem dualApart_walk (w : World) (n ee ff : Nat) (hn : n ≤ 255) (hee : ee ≤ 255) (hff : ff ≤ 255) (v : Value) (bs : List Nat) (hv : FreeB noReg w v bs) :
    Calls Try.prog 12 #[.int .u8 (n : Int), v, .int .u8 (ee : Int), .int .u8 (ff : Int)] w (RetTrue noReg w) := by
  have HA := Lib.hid (awake10_any noReg w (Inv.noReg w))
  have hnot := not_run
  have HV := Lib.hid hv
  have hS := mixL_perm (2 * (n % 12)) bs
  have hSl := mixL_length (2 * (n % 12)) bs
  have hok0 := made_ok (n % 12) 0 bs 0 (by omega) (by omega)
  have HM := Lib.hid (fun R w' (hI : Inv R w') (hv : FreeB R w' v bs) => made10_any R w' hI n 0 0 hn (by omega) (by omega) v bs hv)
  obtain ⟨S, hSe⟩ : ∃ S, mixL (2 * (n % 12)) bs = S := ⟨_, rfl⟩
  obtain ⟨r, hre⟩ : ∃ r, anyRoot (n % 12) 0 = r := ⟨_, rfl⟩
  obtain ⟨m, hm⟩ : ∃ m, 2 * (n % 12) = m := ⟨_, rfl⟩
  simp only [show ((0 : Nat) : Int) = 0 from rfl] at HM
  have hm22 : m ≤ 22 := by omega
  have hev : m % 2 = 0 := by omega
  rw [hSe, hre] at HM hok0
  rw [hSe, hm] at hSl
  rw [hSe] at hS
  rw [← hSl] at hev hm22
  obtain ⟨a0, c0, rfl, _⟩ := hv
  clear hSe hre hm hSl
  have HS := Lib.hid hS
  have HEv := Lib.hid hev
  have HOk := Lib.hid hok0
  clear hS hok0
  go_enter Try.func12, Try.ntmps12
  go_wp2_with fail
  refine HA.out.mono ?_
  rintro e w1 ⟨rfl, R1, he1⟩
  have HE1 := Lib.hid he1
  clear he1
  go_wp2_with fail
  refine (HM.out R1 w1 HE1.out.inv (HV.out.ev HE1.out)).mono ?_
  rintro e w2 ⟨p, a1, c1, R2, rfl, he2, hp2, hf2⟩
  unfold refV
  have hnone : R2 w2.heap.size = none := he2.inv.none_of_ge (Nat.le_refl _)
  have hI3 := he2.inv.alloc (.cells #[.slice a1 S.length c1, .int .i64 r, .int .i64 0] 27)
  have hf3 := hf2.ev ((Ev.refl he2.inv).alloc (.cells #[.slice a1 S.length c1, .int .i64 r, .int .i64 0] 27))
  have HE2 := Lib.hid (HE1.out.trans he2)
  have HP3 := Lib.hid hp2
  have HX := Lib.hid (fun R' w' (h : Ev R2 (w2.alloc (.cells #[.slice a1 S.length c1, .int .i64 r, .int .i64 0] 27)) R' w') => h.ref3 hnone)
  have HF3 := Lib.hid hf3
  have HI3 := Lib.hid hI3
  clear he2 hp2 hf2 hI3 hnone hf3
  go_upto_region 4 with fail
  obtain ⟨w3, hw3⟩ : ∃ w3, w3 = w2.alloc (.cells #[.slice a1 S.length c1, .int .i64 r, .int .i64 0] 27) := ⟨_, rfl⟩
  have HE3 : Hid (Ev noReg w R2 w3) := by rw [hw3]; exact HE2.out.alloc _
  rw [← hw3] at HX HF3 HI3 ⊢
  clear hw3 HE2
  have HEg := Lib.hid (fun R' w' (he : Ev R2 w3 R' w') => edges_any R' w' he.inv p S r 0 (he.map HP3.out))
  have HPl := Lib.hid (phiL_length S)
  have HIl := Lib.hid (invL_length S)
  have HPp := Lib.hid (phiL_perm HS.out HEv.out)
  have HIp := Lib.hid (invL_perm HS.out)
  by_cases h2 : S.length / 2 < 2
  · have hb3 : ((S.length / 2 : Nat) : Int) < 2 := by omega
    have hb4 : (S.length : Int) < 4 := by omega
    obtain ⟨E, hE⟩ : ∃ E, S.length / 2 = E := ⟨_, rfl⟩
    rw [hE] at HEg hb3
    obtain ⟨x0, x1, x2⟩ := HX.out _ _ (Ev.refl HI3.out)
    clear h2 hE
    go_wp2_with fail
    refine (HEg.out _ _ (Ev.refl HI3.out)).mono ?_
    rintro e w' ⟨rfl, rfl⟩
    go_wp2_with fail
    go_ret
    exact ⟨by first | rfl | (simp; done) | (simp; omega), R2, HE3.out⟩
  · obtain ⟨i, hi⟩ : ∃ k, ee % (S.length / 2) = k := ⟨_, rfl⟩
    obtain ⟨k, hk⟩ : ∃ k, ff % (S.length / 2) = k := ⟨_, rfl⟩
    have hil : i < S.length / 2 := by rw [← hi]; exact Nat.mod_lt _ (by omega)
    have hkl : k < S.length / 2 := by rw [← hk]; exact Nat.mod_lt _ (by omega)
    obtain ⟨E, hE⟩ : ∃ E, S.length / 2 = E := ⟨_, rfl⟩
    rw [hE] at HEg hi hk hil hkl
    have HEl := Lib.hid hE
    have hE2 : ¬ (E : Int) < 2 := by omega
    have hmod : (ee : Int) % (E : Int) = (i : Int) := by rw [← hi]; simp
    have hmod2 : (ff : Int) % (E : Int) = (k : Int) := by rw [← hk]; simp
    have hpos : (E : Int) ≠ 0 := by omega
    have hpos2 : E ≠ 0 := by omega
    have HEg2 := Lib.hid (fun nq => HEg.out R2 (w3.drewN nq) ((Ev.refl HI3.out).drewN nq))
    clear h2 hE hi hk
    go_wp2_with fail
    refine (HEg.out _ _ (Ev.refl HI3.out)).mono ?_
    rintro e w' ⟨rfl, rfl⟩
    go_wp2_with fail
    go_quiet (first | (go_at_call 43; refine (HEg2.out _).mono ?_; rintro e w' ⟨rfl, rfl⟩; exact ⟨rfl, _, rfl⟩))
    obtain ⟨w4, hw4⟩ : ∃ w4, w4 = w3.drewN nq := ⟨_, rfl⟩
    have HE4 : Hid (Ev R2 w3 R2 w4) := Lib.hid (by rw [hw4]; exact (Ev.refl HI3.out).drewN nq)
    rw [← hw4]
    clear hw4 HEg HEg2
    by_cases hik : i = k
    · have hb : ((i : Int) == (k : Int)) = true := by rw [hik]; simp
      have HG1 : Hid (genusL (invL (phiL S)) = genusL S) := Lib.hid (by rw [genusL_inv HPp.out (by rw [HPl.out]; exact HEv.out), genusL_phi HS.out HEv.out])
      have HG2 : Hid (genusL (phiL (invL S)) = genusL S) := Lib.hid (by rw [genusL_phi HIp.out (by rw [HIl.out]; exact HEv.out), genusL_inv HS.out HEv.out])
      obtain ⟨gg, hgg⟩ : ∃ g, genusL S = g := ⟨_, rfl⟩
      have HGG := Lib.hid hgg
      have b1 : (gg == gg) = true := by simp
      clear hgg
      go_wp2_with fail
      refine (dual_any R2 w4 HE4.out.inv p S r 0 (HE4.out.map HP3.out)).mono ?_
      rintro e w5 ⟨d, R5, rfl, he5, hd⟩
      have HE5 := Lib.hid (HE4.out.trans he5)
      have HD := Lib.hid (mirror_any R5 w5 he5.inv d _ _ _ hd)
      clear he5 hd
      go_wp2_with fail
      refine (HD.out).mono ?_
      rintro e w6 ⟨d, R6, rfl, he6, hd⟩
      have HE6 := Lib.hid (HE5.out.trans he6)
      have hg := egenus_any R6 w6 he6.inv d _ r 0 hd
      rw [HG1.out, HGG.out] at hg
      have HG := Lib.hid hg
      clear he6 hd hg HD
      go_wp2_with fail
      refine (HG.out).mono ?_
      rintro e w7 ⟨rfl, R7, he7⟩
      have HE7 := Lib.hid (HE6.out.trans he7)
      clear he7 HG
      go_wp2_with fail
      refine (mirror_any R7 w7 HE7.out.inv p S r 0 (HE7.out.map HP3.out)).mono ?_
      rintro e w8 ⟨d, R8, rfl, he8, hd⟩
      have HE8 := Lib.hid (HE7.out.trans he8)
      have HD := Lib.hid (dual_any R8 w8 he8.inv d _ _ _ hd)
      clear he8 hd
      go_wp2_with fail
      refine (HD.out).mono ?_
      rintro e w9 ⟨d, R9, rfl, he9, hd⟩
      have HE9 := Lib.hid (HE8.out.trans he9)
      have hg := egenus_any R9 w9 he9.inv d _ r 0 hd
      rw [HG2.out, HGG.out] at hg
      have HG := Lib.hid hg
      clear he9 hd hg HD
      go_wp2_with fail
      refine (HG.out).mono ?_
      rintro e wA ⟨rfl, RA, heA⟩
      have HEA := Lib.hid (HE3.out.trans (HE9.out.trans heA))
      clear heA HG
      go_wp2_with fail
      go_ret
      exact ⟨by first | rfl | (simp; done), RA, HEA.out⟩
    · have hb : ((i : Int) == (k : Int)) = false := by simp; omega
      rcases Nat.lt_or_gt_of_ne hik with hlt | hlt
      · have hlh : i < k := by omega
        have hhE : k < E := by omega
        have q1 : (i : Int) ≤ (k : Int) := by omega
        have q2 : (i : Int) < (k : Int) := by omega
        have q3 : ¬ (k : Int) ≤ (i : Int) := by omega
        have q4 : ¬ (k : Int) < (i : Int) := by omega
        have hlen : S.length = 2 * E := by have := HEl.out; have := HEv.out; omega
        have hlen2 : 2 * k + 2 ≤ S.length := by omega
        have hq1 : k < S.length / 2 := by rw [HEl.out]; exact hhE
        have hq2 : i < S.length / 2 := by rw [HEl.out]; omega
        have h00 : (0 : Int) ≤ 60000 := by decide
        have HCC := Lib.hid (cut_cut HS.out hlh hlen2)
        have HLo := Lib.hid (cutLone_cut HS.out hlh hlen2)
        have hc1 := cutLone_le S k
        have hc2 := cutLone_le S i
        have hdl1 := doneL_length S k
        have hdl2 := doneL_length S i
        have hwr : IntKind.i64.wrap ((k : Int) - 1) = ((k - 1 : Nat) : Int) := by rw [show (k : Int) - 1 = ((k - 1 : Nat) : Int) by omega]; exact IntWalk.i64_in _ (by omega)
        have HMv := Lib.hid (mirror_vertices HS.out HEv.out)
        have HC1 := Lib.hid hc1
        have HC2 := Lib.hid hc2
        have HL1 := Lib.hid hdl1
        have HL2 := Lib.hid hdl2
        have HLen := Lib.hid hlen
        clear hc1 hc2 hdl1 hdl2 hlen hlen2
        go_wp2_with fail
        refine (cut_any R2 w4 HE4.out.inv p S r 0 (HE4.out.map HP3.out) k hq1 h00).mono ?_
        rintro e w5 ⟨a, R5, rfl, he5, ha⟩
        have HE5 := Lib.hid (HE4.out.trans he5)
        have HCa := Lib.hid (cut_any R5 w5 he5.inv a (doneL S k) (rootL S k r.toNat) (0 + cutLone S k) ha i (by have := HLen.out; rw [HL1.out]; omega) (by have := HC1.out; omega))
        clear he5 ha
        go_wp2_with fail
        refine (HCa.out).mono ?_
        rintro e w6 ⟨a2, R6, rfl, he6, ha⟩
        have HE6 := Lib.hid (HE5.out.trans he6)
        rw [HCC.out] at ha
        have HA2 := Lib.hid ha
        clear he6 ha HCa
        go_wp2_with fail
        refine (cut_any R6 w6 HE6.out.inv p S r 0 (HE6.out.map HP3.out) i hq2 h00).mono ?_
        rintro e w7 ⟨b, R7, rfl, he7, hb⟩
        have HE7 := Lib.hid (HE6.out.trans he7)
        have HCb := Lib.hid (cut_any R7 w7 he7.inv b (doneL S i) (rootL S i r.toNat) (0 + cutLone S i) hb (k - 1) (by have := HLen.out; rw [HL2.out]; omega) (by have := HC2.out; omega))
        have HA3 := Lib.hid (he7.map HA2.out)
        clear he7 hb HA2
        go_wp2_with fail
        refine (HCb.out).mono ?_
        rintro e w8 ⟨b2, R8, rfl, he8, hb⟩
        have HE8 := Lib.hid (HE7.out.trans he8)
        have HB2 := Lib.hid hb
        have HA4 := Lib.hid (he8.map HA3.out)
        clear he8 hb HCb HA3
        go_wp2_with fail
        obtain ⟨D, hD⟩ : ∃ D, doneL (doneL S i) (k - 1) = D := ⟨_, rfl⟩
        have hDl : D.length ≤ 100000 := by rw [← hD, doneL_length, HL2.out]; have := HLen.out; omega
        have hlone : (0 : Int) + cutLone S k + cutLone (doneL S k) i = 0 + cutLone S i + cutLone (doneL S i) (k - 1) := by have := HLo.out; omega
        rw [hlone] at HA4
        obtain ⟨LL, hLL⟩ : ∃ L, (0 : Int) + cutLone S i + cutLone (doneL S i) (k - 1) = L := ⟨_, rfl⟩
        rw [hLL] at HA4 HB2
        rw [hD] at HA4 HB2
        have bLL : (LL == LL) = true := by simp
        clear hD hlone hLL
        refine (mlist_any R8 w8 HE8.out.inv a2 D _ LL HA4.out).mono ?_
        rintro e w9 ⟨v9, rfl, he9, ho9⟩
        have HE9 := Lib.hid (HE8.out.trans he9)
        have HO9 := Lib.hid ho9
        have HA5 := Lib.hid (he9.map HA4.out)
        have HB3 := Lib.hid (he9.map HB2.out)
        clear he9 ho9 HA4 HB2
        go_wp2_with fail
        refine (mlist_any R8 w9 HE9.out.inv b2 D _ LL HB3.out).mono ?_
        rintro e wA ⟨vA, rfl, heA, hoA⟩
        have HEA := Lib.hid (HE9.out.trans heA)
        have HOA := Lib.hid hoA
        have HO9A := Lib.hid (HO9.out.ev heA)
        have HA6 := Lib.hid (heA.map HA5.out)
        have HB4 := Lib.hid (heA.map HB3.out)
        clear heA hoA HA5 HB3 HO9
        have hlt : (toI D).length ≤ 4194304 := by rw [toI_length]; omega
        have hEq := equal_any R8 wA HEA.out.inv v9 vA _ _ HO9A.out.ints HOA.out.ints hlt hlt
        rw [eqL_true rfl] at hEq
        have HEq := Lib.hid hEq
        clear hEq
        go_wp2_with fail
        refine (HEq.out).mono ?_
        rintro e wB ⟨rfl, heB⟩
        have HEB := Lib.hid (HEA.out.trans heB)
        have HL3 := Lib.hid (lone_any R8 wB heB.inv a2 _ _ _ (heB.map HA6.out))
        have HL4 := Lib.hid (lone_any R8 wB heB.inv b2 _ _ _ (heB.map HB4.out))
        clear heB HA6 HB4 HEq
        go_wp2_with fail
        refine (HL3.out).mono ?_
        rintro e w' ⟨rfl, rfl⟩
        go_wp2_with fail
        refine (HL4.out).mono ?_
        rintro e w' ⟨rfl, rfl⟩
        go_wp2_with fail
        refine (mirror_any R8 wB HEB.out.inv p S r 0 (HEB.out.map HP3.out)).mono ?_
        rintro e wC ⟨d, RC, rfl, heC, hd⟩
        have HEC := Lib.hid (HEB.out.trans heC)
        have HD := Lib.hid (dual_any RC wC heC.inv d _ _ _ hd)
        clear heC hd
        go_wp2_with fail
        refine (HD.out).mono ?_
        rintro e wD ⟨d, RD, rfl, heD, hd⟩
        have HED := Lib.hid (HEC.out.trans heD)
        have hv := vertices_any RD wD heD.inv d _ r 0 hd
        rw [HMv.out] at hv
        have HV := Lib.hid hv
        clear heD hd hv HD
        go_wp2_with fail
        obtain ⟨vv, hvv⟩ : ∃ v, (((sizesL (invL (phiL S))).length : Nat) : Int) + 0 = v := ⟨_, rfl⟩
        rw [hvv] at HV
        have b3 : (vv == vv) = true := by simp
        refine (HV.out).mono ?_
        rintro e wE ⟨rfl, RE, heE⟩
        have HEE := Lib.hid (HED.out.trans heE)
        clear heE HV
        go_wp2_with fail
        refine (dual_any RE wE HEE.out.inv p S r 0 (HEE.out.map HP3.out)).mono ?_
        rintro e wF ⟨d, RF, rfl, heF, hd⟩
        have HEF := Lib.hid (HEE.out.trans heF)
        have HD := Lib.hid (mirror_any RF wF heF.inv d _ _ _ hd)
        clear heF hd
        go_wp2_with fail
        refine (HD.out).mono ?_
        rintro e wG ⟨d, RG, rfl, heG, hd⟩
        have HEG := Lib.hid (HEF.out.trans heG)
        have hv := vertices_any RG wG heG.inv d _ r 0 hd
        rw [hvv] at hv
        have HV := Lib.hid hv
        clear heG hd hv HD hvv
        go_wp2_with fail
        refine (HV.out).mono ?_
        rintro e wH ⟨rfl, RH, heH⟩
        have HEH := Lib.hid (HE3.out.trans (HEG.out.trans heH))
        clear heH HV
        go_wp2_with fail
        go_ret
        exact ⟨by first | rfl | (simp; done), RH, HEH.out⟩
      · have hlh : k < i := by omega
        have hhE : i < E := by omega
        have q1 : (k : Int) ≤ (i : Int) := by omega
        have q2 : (k : Int) < (i : Int) := by omega
        have q3 : ¬ (i : Int) ≤ (k : Int) := by omega
        have q4 : ¬ (i : Int) < (k : Int) := by omega
        have hlen : S.length = 2 * E := by have := HEl.out; have := HEv.out; omega
        have hlen2 : 2 * i + 2 ≤ S.length := by omega
        have hq1 : i < S.length / 2 := by rw [HEl.out]; exact hhE
        have hq2 : k < S.length / 2 := by rw [HEl.out]; omega
        have h00 : (0 : Int) ≤ 60000 := by decide
        have HCC := Lib.hid (cut_cut HS.out hlh hlen2)
        have HLo := Lib.hid (cutLone_cut HS.out hlh hlen2)
        have hc1 := cutLone_le S i
        have hc2 := cutLone_le S k
        have hdl1 := doneL_length S i
        have hdl2 := doneL_length S k
        have hwr : IntKind.i64.wrap ((i : Int) - 1) = ((i - 1 : Nat) : Int) := by rw [show (i : Int) - 1 = ((i - 1 : Nat) : Int) by omega]; exact IntWalk.i64_in _ (by omega)
        have HMv := Lib.hid (mirror_vertices HS.out HEv.out)
        have HC1 := Lib.hid hc1
        have HC2 := Lib.hid hc2
        have HL1 := Lib.hid hdl1
        have HL2 := Lib.hid hdl2
        have HLen := Lib.hid hlen
        clear hc1 hc2 hdl1 hdl2 hlen hlen2
        go_wp2_with fail
        refine (cut_any R2 w4 HE4.out.inv p S r 0 (HE4.out.map HP3.out) i hq1 h00).mono ?_
        rintro e w5 ⟨a, R5, rfl, he5, ha⟩
        have HE5 := Lib.hid (HE4.out.trans he5)
        have HCa := Lib.hid (cut_any R5 w5 he5.inv a (doneL S i) (rootL S i r.toNat) (0 + cutLone S i) ha k (by have := HLen.out; rw [HL1.out]; omega) (by have := HC1.out; omega))
        clear he5 ha
        go_wp2_with fail
        refine (HCa.out).mono ?_
        rintro e w6 ⟨a2, R6, rfl, he6, ha⟩
        have HE6 := Lib.hid (HE5.out.trans he6)
        rw [HCC.out] at ha
        have HA2 := Lib.hid ha
        clear he6 ha HCa
        go_wp2_with fail
        refine (cut_any R6 w6 HE6.out.inv p S r 0 (HE6.out.map HP3.out) k hq2 h00).mono ?_
        rintro e w7 ⟨b, R7, rfl, he7, hb⟩
        have HE7 := Lib.hid (HE6.out.trans he7)
        have HCb := Lib.hid (cut_any R7 w7 he7.inv b (doneL S k) (rootL S k r.toNat) (0 + cutLone S k) hb (i - 1) (by have := HLen.out; rw [HL2.out]; omega) (by have := HC2.out; omega))
        have HA3 := Lib.hid (he7.map HA2.out)
        clear he7 hb HA2
        go_wp2_with fail
        refine (HCb.out).mono ?_
        rintro e w8 ⟨b2, R8, rfl, he8, hb⟩
        have HE8 := Lib.hid (HE7.out.trans he8)
        have HB2 := Lib.hid hb
        have HA4 := Lib.hid (he8.map HA3.out)
        clear he8 hb HCb HA3
        go_wp2_with fail
        obtain ⟨D, hD⟩ : ∃ D, doneL (doneL S k) (i - 1) = D := ⟨_, rfl⟩
        have hDl : D.length ≤ 100000 := by rw [← hD, doneL_length, HL2.out]; have := HLen.out; omega
        have hlone : (0 : Int) + cutLone S i + cutLone (doneL S i) k = 0 + cutLone S k + cutLone (doneL S k) (i - 1) := by have := HLo.out; omega
        rw [hlone] at HA4
        obtain ⟨LL, hLL⟩ : ∃ L, (0 : Int) + cutLone S k + cutLone (doneL S k) (i - 1) = L := ⟨_, rfl⟩
        rw [hLL] at HA4 HB2
        rw [hD] at HA4 HB2
        have bLL : (LL == LL) = true := by simp
        clear hD hlone hLL
        refine (mlist_any R8 w8 HE8.out.inv a2 D _ LL HA4.out).mono ?_
        rintro e w9 ⟨v9, rfl, he9, ho9⟩
        have HE9 := Lib.hid (HE8.out.trans he9)
        have HO9 := Lib.hid ho9
        have HA5 := Lib.hid (he9.map HA4.out)
        have HB3 := Lib.hid (he9.map HB2.out)
        clear he9 ho9 HA4 HB2
        go_wp2_with fail
        refine (mlist_any R8 w9 HE9.out.inv b2 D _ LL HB3.out).mono ?_
        rintro e wA ⟨vA, rfl, heA, hoA⟩
        have HEA := Lib.hid (HE9.out.trans heA)
        have HOA := Lib.hid hoA
        have HO9A := Lib.hid (HO9.out.ev heA)
        have HA6 := Lib.hid (heA.map HA5.out)
        have HB4 := Lib.hid (heA.map HB3.out)
        clear heA hoA HA5 HB3 HO9
        have hlt : (toI D).length ≤ 4194304 := by rw [toI_length]; omega
        have hEq := equal_any R8 wA HEA.out.inv v9 vA _ _ HO9A.out.ints HOA.out.ints hlt hlt
        rw [eqL_true rfl] at hEq
        have HEq := Lib.hid hEq
        clear hEq
        go_wp2_with fail
        refine (HEq.out).mono ?_
        rintro e wB ⟨rfl, heB⟩
        have HEB := Lib.hid (HEA.out.trans heB)
        have HL3 := Lib.hid (lone_any R8 wB heB.inv a2 _ _ _ (heB.map HA6.out))
        have HL4 := Lib.hid (lone_any R8 wB heB.inv b2 _ _ _ (heB.map HB4.out))
        clear heB HA6 HB4 HEq
        go_wp2_with fail
        refine (HL3.out).mono ?_
        rintro e w' ⟨rfl, rfl⟩
        go_wp2_with fail
        refine (HL4.out).mono ?_
        rintro e w' ⟨rfl, rfl⟩
        go_wp2_with fail
        refine (mirror_any R8 wB HEB.out.inv p S r 0 (HEB.out.map HP3.out)).mono ?_
        rintro e wC ⟨d, RC, rfl, heC, hd⟩
        have HEC := Lib.hid (HEB.out.trans heC)
        have HD := Lib.hid (dual_any RC wC heC.inv d _ _ _ hd)
        clear heC hd
        go_wp2_with fail
        refine (HD.out).mono ?_
        rintro e wD ⟨d, RD, rfl, heD, hd⟩
        have HED := Lib.hid (HEC.out.trans heD)
        have hv := vertices_any RD wD heD.inv d _ r 0 hd
        rw [HMv.out] at hv
        have HV := Lib.hid hv
        clear heD hd hv HD
        go_wp2_with fail
        obtain ⟨vv, hvv⟩ : ∃ v, (((sizesL (invL (phiL S))).length : Nat) : Int) + 0 = v := ⟨_, rfl⟩
        rw [hvv] at HV
        have b3 : (vv == vv) = true := by simp
        refine (HV.out).mono ?_
        rintro e wE ⟨rfl, RE, heE⟩
        have HEE := Lib.hid (HED.out.trans heE)
        clear heE HV
        go_wp2_with fail
        refine (dual_any RE wE HEE.out.inv p S r 0 (HEE.out.map HP3.out)).mono ?_
        rintro e wF ⟨d, RF, rfl, heF, hd⟩
        have HEF := Lib.hid (HEE.out.trans heF)
        have HD := Lib.hid (mirror_any RF wF heF.inv d _ _ _ hd)
        clear heF hd
        go_wp2_with fail
        refine (HD.out).mono ?_
        rintro e wG ⟨d, RG, rfl, heG, hd⟩
        have HEG := Lib.hid (HEF.out.trans heG)
        have hv := vertices_any RG wG heG.inv d _ r 0 hd
        rw [hvv] at hv
        have HV := Lib.hid hv
        clear heG hd hv HD hvv
        go_wp2_with fail
        refine (HV.out).mono ?_
        rintro e wH ⟨rfl, RH, heH⟩
        have HEH := Lib.hid (HE3.out.trans (HEG.out.trans heH))
        clear heH HV
        go_wp2_with fail
        go_ret
        exact ⟨by first | rfl | (simp; done), RH, HEH.out⟩

end Go.Proofs.Ytnbecpeiodcohaa
