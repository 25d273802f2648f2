/- parquetrylaw10: made, awake. Conditions: the bytes lie in memory. The dual has the same parts, of the same genus; the dual's dual is the map, the mirror's mirror too. Conditions: none. Shrunk in the map, an edge is cut in the dual. Conditions: none. parquetrylaw10.DualTurns, the walk: it answers true. Conditions: the bytes lie in memory. -/
import Derived.Test.YtnbecpeiodcohaaZDualTurns13
import Derived.Test.YtnbecpeiodcohaaZDualTurns22
import Derived.Test.YtnbecpeiodcohaaZDualTurns21
import Derived.Test.YtnbecpeiodcohaaZDualTurns18
namespace Go.Proofs.Ytnbecpeiodcohaa
open Go.RowKit
set_option linter.unusedVariables false

set_option maxRecDepth 100000 in
set_option maxHeartbeats 2000000 in
theorem made10_any (R : Reg) (w : World) (hI : Inv R w) (n rt ln : Nat) (hn : n ≤ 255) (hr : rt ≤ 255) (hl : ln ≤ 255) (v : Value) (bs : List Nat) (hv : FreeB R w v bs) :
    Calls Try.prog 42 #[.int .u8 (n : Int), v, .int .u8 (rt : Int), .int .u8 (ln : Int)] w (MadeMap R w (mixL (2 * (n % 12)) bs) (anyRoot (n % 12) rt) ((ln % 3 : Nat) : Int)) := by
  have he0 : Ev R w R (w.alloc (.cells #[.slice none 0 0, .int .i64 0, .int .i64 0] 27)) := (Ev.refl hI).alloc _
  have hm := rany_any R _ he0.inv (n % 12) (by omega) v bs (hv.ev he0) rt hr
  have hok := made_ok (n % 12) rt bs (ln % 3) (by omega) (by omega)
  have hS := mixL_perm (2 * (n % 12)) bs
  rw [show ((n % 12 : Nat) : Int) = (n : Int) % 12 from by omega] at hm
  obtain ⟨S, hSe⟩ : ∃ S, mixL (2 * (n % 12)) bs = S := ⟨_, rfl⟩
  obtain ⟨r, hre⟩ : ∃ r, anyRoot (n % 12) rt = r := ⟨_, rfl⟩
  rw [show ((ln % 3 : Nat) : Int) = (ln : Int) % 3 from by omega] at hok ⊢
  rw [hSe, hre] at hm hok ⊢
  rw [hSe] at hS
  have HM := Lib.hid hm
  have HOK := Lib.hid hok
  have HS := Lib.hid hS
  have HE0 := Lib.hid he0
  have HI := Lib.hid hI
  obtain ⟨a0, c0, rfl, _⟩ := hv
  clear hm he0 hI hSe hre hok hS
  go_enter Try.func42, Try.ntmps42
  go_wp2_with fail
  refine HM.out.mono ?_
  rintro e w1 ⟨a1, c1, rfl, he1, ho1⟩
  unfold refV
  have hz := he1.size
  simp only [World.size_alloc] at hz
  have hc0 : w1.heap[w.heap.size]? = some (.cells #[.slice none 0 0, .int .i64 0, .int .i64 0] 27 (0, 0)) := by
    rw [he1.block _ (by simp) (HI.out.none_of_ge (Nat.le_refl _))]
    exact heap_alloc_new w _
  have he2 := (HE0.out.trans he1).alloc (.cells #[.slice a1 S.length c1, .int .i64 r, .int .i64 ((ln : Int) % 3)] 27)
  have ho2 := ho1.alloc (.cells #[.slice a1 S.length c1, .int .i64 r, .int .i64 ((ln : Int) % 3)] 27)
  have hnew := new_yes R _ he2.inv (.slice a1 S.length c1) S ho2.free r ((ln : Int) % 3) HS.out HOK.out
  have HN := Lib.hid hnew
  have HE1 := Lib.hid (HE0.out.trans he1)
  have HE2 := Lib.hid he2
  have HO2 := Lib.hid ho2
  have HC0 := Lib.hid hc0
  clear he1 ho1 he2 ho2 hnew hc0
  go_wp2_with fail
  refine HN.out.mono ?_
  rintro e w2 ⟨p, R2, rfl, he3, hm3⟩
  have hsz1 : w1.heap.size + 1 ≤ w2.heap.size := by have := he3.size; simpa using this
  have hb1 : w2.heap[w1.heap.size]? = some (.cells #[.slice a1 S.length c1, .int .i64 r, .int .i64 ((ln : Int) % 3)] 27 (0, 0)) := by
    rw [he3.block _ (by simp) (HE1.out.inv.none_of_ge (Nat.le_refl _))]
    exact heap_alloc_new w1 _
  have hb0 : w2.heap[w.heap.size]? = some (.cells #[.slice none 0 0, .int .i64 0, .int .i64 0] 27 (0, 0)) := by
    rw [he3.block _ (by simp; omega) (HI.out.none_of_ge (Nat.le_refl _)), Below.heap_alloc _ _ _ (by omega)]
    exact HC0.out
  have k0 : w2.cell? ⟨w1.heap.size, 0, none⟩ = some (.slice a1 S.length c1) := by simp [World.cell?, hb1]
  have k1 : w2.cell? ⟨w1.heap.size, 1, none⟩ = some (.int .i64 r) := by simp [World.cell?, hb1]
  have k2 : w2.cell? ⟨w1.heap.size, 2, none⟩ = some (.int .i64 ((ln : Int) % 3)) := by simp [World.cell?, hb1]
  have j0 : w2.cell? ⟨w.heap.size, 0, none⟩ = some (.slice none 0 0) := by simp [World.cell?, hb0]
  have j1 : w2.cell? ⟨w.heap.size, 1, none⟩ = some (.int .i64 0) := by simp [World.cell?, hb0]
  have j2 : w2.cell? ⟨w.heap.size, 2, none⟩ = some (.int .i64 0) := by simp [World.cell?, hb0]
  have z0 : ∀ o, w2.frozen? ⟨w.heap.size, o, none⟩ = false := fun o => by simp [World.frozen?, hb0]
  have HB0 := Lib.hid hb0
  have HE3 := Lib.hid he3
  have HM3 := Lib.hid hm3
  have hn2 : R2 w.heap.size = none := he3.free _ (by simp; omega) (HI.out.none_of_ge (Nat.le_refl _))
  have HN2 := Lib.hid hn2
  clear hb0 hb1 he3 hm3 hn2
  go_wp2_with fail
  go_region
  all_goals go_wp2_with fail
  have hb3 := set3 (x := .slice a1 S.length c1) (y := .int .i64 r) (z := .int .i64 ((ln : Int) % 3)) HB0.out
  have w0 : ((((w2.setCell ⟨w.heap.size, 0, none⟩ (.slice a1 S.length c1)).setCell ⟨w.heap.size, 1, none⟩ (.int .i64 r)).setCell ⟨w.heap.size, 2, none⟩ (.int .i64 ((ln : Int) % 3))).drew).cell? ⟨w.heap.size, 0, none⟩ = some (.slice a1 S.length c1) := by rw [World.cell?_drew, cells_at hb3]; rfl
  have w1' : ((((w2.setCell ⟨w.heap.size, 0, none⟩ (.slice a1 S.length c1)).setCell ⟨w.heap.size, 1, none⟩ (.int .i64 r)).setCell ⟨w.heap.size, 2, none⟩ (.int .i64 ((ln : Int) % 3))).drew).cell? ⟨w.heap.size, 1, none⟩ = some (.int .i64 r) := by rw [World.cell?_drew, cells_at hb3]; rfl
  have w2' : ((((w2.setCell ⟨w.heap.size, 0, none⟩ (.slice a1 S.length c1)).setCell ⟨w.heap.size, 1, none⟩ (.int .i64 r)).setCell ⟨w.heap.size, 2, none⟩ (.int .i64 ((ln : Int) % 3))).drew).cell? ⟨w.heap.size, 2, none⟩ = some (.int .i64 ((ln : Int) % 3)) := by rw [World.cell?_drew, cells_at hb3]; rfl
  refine bodyPost_ret (v := .tuple #[p, refV (.slice a1 S.length c1) r ((ln : Int) % 3)]) ?_ rfl ⟨p, a1, c1, R2, rfl, ?_, HM3.out, ?_⟩
  · simp only [World.cell?_drew] at w0 w1' w2'
    simp [results, Try.results42, go_sem, w0, w1', w2', refV]
  · exact ((((HE2.out.trans HE3.out).setCell (Nat.le_refl _) HN2.out _).setCell (Nat.le_refl _) HN2.out _).setCell (Nat.le_refl _) HN2.out _).drew
  · have ho3 := HO2.out.ev HE3.out
    have hne : ∀ (o : Nat), (Value.slice a1 S.length c1).ownBlock ≠ some (⟨w.heap.size, o, none⟩ : Addr).block := fun o e => by
      have h : w.heap.size + 1 ≤ w.heap.size := by have := (ho3.lt _ e).1; simpa using this
      omega
    exact ((((ho3.setCell (hne 0) _).setCell (hne 1) _).setCell (hne 2) _).drew).free

theorem d10a : (sizesL (phiL [0, 1])).length = 1 := by decide
theorem d10b : (sizesL (phiL (phiL [0, 1]))).length = 2 := by decide
theorem d10c : cutLone [0, 1] 0 = 2 := by decide
theorem d10d : shrLone [0, 1] 0 = 1 := by decide
theorem d10e : nth (namesL [0, 1]) 0 ≠ nth (namesL [0, 1]) 1 := by decide

set_option maxRecDepth 100000 in
set_option maxHeartbeats 2000000 in
theorem awake10_any (R : Reg) (w : World) (hI : Inv R w) : Calls Try.prog 41 #[] w (RetTrue R w) := by
  have hok1 : MapOk [0, 1] 0 0 := by unfold MapOk; simp
  have h1 := new_yes R _ (hI.alloc _) _ [0, 1] (FreeI.two hI 0 1) 0 0 perm01 hok1
  have H1 := Lib.hid h1
  have HI := Lib.hid hI
  clear h1 hI hok1
  go_enter Try.func41, Try.ntmps41
  go_wp2_with fail
  refine H1.out.mono ?_
  rintro e w1 ⟨p, R1, rfl, he1, hp⟩
  have he1' := ((Ev.refl HI.out).alloc (.cells #[.int .i64 0, .int .i64 1] 3)).trans he1
  have HDu := Lib.hid (dual_any R1 w1 he1.inv p [0, 1] 0 0 hp)
  have HP := Lib.hid hp
  have HE1 := Lib.hid he1'
  clear he1 he1' hp
  go_wp2_with fail
  refine HDu.out.mono ?_
  rintro e w2 ⟨d, R2, rfl, he2, hd⟩
  have hc := cut_any R2 w2 he2.inv p [0, 1] 0 0 (he2.map HP.out) 0 (by decide) (by decide)
  rw [d10c] at hc
  have HCu := Lib.hid hc
  have HE2 := Lib.hid (HE1.out.trans he2)
  have HD2 := Lib.hid hd
  have HP2 := Lib.hid (he2.map HP.out)
  clear he2 hd hc HP HE1
  go_wp2_with fail
  refine HCu.out.mono ?_
  rintro e w3 ⟨c, R3, rfl, he3, hc⟩
  have hs := shrink_any R3 w3 he3.inv p [0, 1] 0 0 (he3.map HP2.out) 0 (by decide) (by decide) d10e
  rw [d10d] at hs
  have HSh := Lib.hid hs
  have HE3 := Lib.hid (HE2.out.trans he3)
  have HC3 := Lib.hid hc
  have HD3 := Lib.hid (he3.map HD2.out)
  clear he3 hc hs HP2 HE2 HD2
  go_wp2_with fail
  refine HSh.out.mono ?_
  rintro e w4 ⟨q, R4, rfl, he4, hq⟩
  have hv := vertices_any R4 w4 he4.inv d (phiL [0, 1]) 0 0 (he4.map HD3.out)
  rw [d10a] at hv
  have HV := Lib.hid hv
  have HE4 := Lib.hid (HE3.out.trans he4)
  have HC4 := Lib.hid (he4.map HC3.out)
  have HD4 := Lib.hid (he4.map HD3.out)
  have HQ4 := Lib.hid hq
  clear he4 hv hq HE3 HC3 HD3
  go_wp2_with fail
  refine HV.out.mono ?_
  rintro e w5 ⟨rfl, R5, he5⟩
  have hb := borders_any R5 w5 he5.inv d (phiL [0, 1]) 0 0 (he5.map HD4.out)
  rw [d10b] at hb
  have HB := Lib.hid hb
  have HE5 := Lib.hid (HE4.out.trans he5)
  have HC5 := Lib.hid (he5.map HC4.out)
  have HQ5 := Lib.hid (he5.map HQ4.out)
  clear he5 hb
  go_wp2_with fail
  refine HB.out.mono ?_
  rintro e w6 ⟨rfl, R6, he6⟩
  have HL1 := Lib.hid (lone_any R6 w6 he6.inv c _ _ _ (he6.map HC5.out))
  have HL2 := Lib.hid (lone_any R6 w6 he6.inv q _ _ _ (he6.map HQ5.out))
  have HE6 := Lib.hid (HE5.out.trans he6)
  clear he6
  go_wp2_with fail
  refine HL1.out.mono ?_
  rintro e w' ⟨rfl, rfl⟩
  go_wp2_with fail
  refine HL2.out.mono ?_
  rintro e w' ⟨rfl, rfl⟩
  go_wp2_with fail
  go_ret
  exact ⟨rfl, R6, HE6.out⟩

end Go.Proofs.Ytnbecpeiodcohaa

namespace Go.Proofs.Ytnbecpeiodcohaa
set_option linter.unusedVariables false

theorem eq_at {s t : List Nat} (h : s.length = t.length) (hk : ∀ j, j < s.length → at' s j = at' t j) : s = t := by
  refine List.ext_getElem h fun i h1 h2 => ?_
  have := hk i h1
  simpa [at', h1, h2] using this

section
variable {s : List Nat} (hs : IsPerm s) (he : s.length % 2 = 0)

include he in
theorem phi_phi : phiL (phiL s) = s := by
  refine eq_at (by rw [phiL_length, phiL_length]) fun j hj => ?_
  rw [phiL_length, phiL_length] at hj
  rw [phiL_at (by rw [phiL_length]; exact hj), phiL_at (xor_one_lt he hj), xor_one_one]

include hs in
theorem inv_inv : invL (invL s) = s := by
  have hi := invL_perm hs
  refine eq_at (by rw [invL_length, invL_length]) fun j hj => ?_
  rw [invL_length, invL_length] at hj
  have h := (at_invL hi (y := j) (by rw [invL_length]; exact hj))
  rw [invL_length] at h
  refine hi.inj (by rw [invL_length]; exact h.2) (by rw [invL_length]; exact hs.lt hj) ?_
  rw [h.1, invL_at hs hj]

include hs he
theorem con_phi_sub {x y : Nat} (h : Con (phiL s) x y) : Con s x y := by
  refine Con.sub (phiL_perm hs he) (r := Con s) (by rw [phiL_length]; exact Con.per hs) (fun z hz => ?_) (fun z hz => ?_) h
  · rw [phiL_length] at hz
    rw [phiL_at hz]
    exact (Con.per hs).trans (Con.mate hs he hz) (Con.step hs (xor_one_lt he hz))
  · rw [phiL_length] at hz
    exact Con.mate hs he hz
theorem con_phi (x y : Nat) (hx : x < s.length) (hy : y < s.length) : Con (phiL s) x y ↔ Con s x y := by
  refine ⟨con_phi_sub hs he, fun h => ?_⟩
  have := con_phi_sub (phiL_perm hs he) (by rw [phiL_length]; exact he) (x := x) (y := y)
  rw [phi_phi he] at this
  exact this h
theorem partsL_phi : partsL (phiL s) = partsL s := by
  have h1 := partsL_ord (phiL_perm hs he) (by rw [phiL_length]; exact he)
  rw [phiL_length] at h1
  exact (h1.congr (con_phi hs he)).unique (partsL_ord hs he)
theorem partsN_phi : partsN (phiL s) = partsN s := by
  have h1 := partsL_ord (phiL_perm hs he) (by rw [phiL_length]; exact he)
  rw [phiL_length] at h1
  have a := (h1.congr (con_phi hs he)).cnt_eq (Nat.le_refl _)
  have b := (partsL_ord hs he).cnt_eq (Nat.le_refl _)
  unfold partsN
  rw [phiL_length]
  exact a.trans b.symm
theorem genOf_phi (k : Nat) : genOf (phiL s) (partsL (phiL s)) k = genOf s (partsL s) k := by
  unfold genOf
  rw [partsL_phi hs he, phiL_length, phi_phi he]
  congr 1
  omega
theorem genusTo_phi : ∀ k, genusTo (phiL s) k = genusTo s k
  | 0 => rfl
  | k + 1 => by unfold genusTo; rw [genusTo_phi k, genOf_phi hs he]
theorem genusL_phi : genusL (phiL s) = genusL s := by
  unfold genusL; rw [partsN_phi hs he, genusTo_phi hs he]
end
end Go.Proofs.Ytnbecpeiodcohaa

namespace Go.Proofs.Ytnbecpeiodcohaa
set_option linter.unusedVariables false

theorem unL_mate (e j : Nat) : unL e (j ^^^ 1) = unL e j ^^^ 1 := by
  rw [xor_one j, xor_one (unL e j)]
  unfold unL
  repeat' split
  all_goals omega
theorem mate_own {d e : Nat} : (d ^^^ 1) / 2 = e ↔ d / 2 = e := by
  have h := xor_one d
  rw [h]
  split <;> omega
theorem exI_own {e i : Nat} (h : i / 2 = e) : exI e i = i ^^^ 1 := by
  rw [xor_one]; unfold exI
  repeat' split
  all_goals omega
theorem exI_else {e i : Nat} (h : ¬ i / 2 = e) : exI e i = i := by
  unfold exI; split <;> (try split) <;> omega

/-- passing asks for the edge's own darts alone -/
theorem pass_same {t u : List Nat} {e : Nat} (h : ∀ d, d / 2 = e → at' t d = at' u d) (x : Nat) : passN t e x = passN u e x := by
  have key : ∀ f x, passF t e f x = passF u e f x := fun f => by
    induction f with
    | zero => intro x; rfl
    | succ f ih =>
      intro x
      unfold passF
      by_cases hx : x / 2 = e
      · rw [if_pos hx, if_pos hx, h x hx, ih]
      · rw [if_neg hx, if_neg hx]
  exact key 2 x

theorem turn_shrink {s : List Nat} (hs : IsPerm s) (he : s.length % 2 = 0) {e : Nat} (hn : 2 * e + 2 ≤ s.length) : phiL (doneL (exL s e) e) = doneL (phiL s) e := by
  have hl : (doneL (exL s e) e).length = s.length - 2 := by rw [doneL_length, exL_length]
  refine eq_at (by rw [phiL_length, hl, doneL_length, phiL_length]) fun j hj => ?_
  rw [phiL_length, hl] at hj
  have hjm : (j ^^^ 1) < s.length - 2 := xor_one_lt (by omega) hj
  have hd : unL e j < s.length := unL_lt hn hj
  have hdm : (unL e j ^^^ 1) < s.length := xor_one_lt he hd
  rw [phiL_at (by rw [hl]; exact hj), doneL_at (by rw [exL_length]; exact hjm), doneL_at (by rw [phiL_length]; exact hj), unL_mate, phiL_at hd, exL_at hdm, exI_else (fun h => unL_own (mate_own.1 h))]
  congr 1
  refine pass_same (fun d hd => ?_) _
  have hdl : d < s.length := by omega
  rw [exL_at hdl, exI_own hd, phiL_at hdl]

end Go.Proofs.Ytnbecpeiodcohaa

namespace Go.Proofs.Ytnbecpeiodcohaa
open Go.RowKit
set_option linter.unusedVariables false

theorem loopsTo_pos {s : List Nat} {e : Nat} (h : loopB s e = true) : ∀ k, e < k → 0 < loopsTo s k
  | 0, hk => by omega
  | k + 1, hk => by
    unfold loopsTo
    by_cases e1 : e = k
    · subst e1; rw [if_pos h]; omega
    · have := loopsTo_pos h k (by omega)
      split <;> omega

set_option maxRecDepth 100000 in
set_option maxHeartbeats 16000000 in
theorem dualTurns_walk (w : World) (n ee : Nat) (hn : n ≤ 255) (hee : ee ≤ 255) (v : Value) (bs : List Nat) (hv : FreeB noReg w v bs) :
    Calls Try.prog 8 #[.int .u8 (n : Int), v, .int .u8 (ee : Int)] w (RetTrue noReg w) := by
  have HA := Lib.hid (awake10_any noReg w (Inv.noReg w))
  have hnot := not_run
  have HV := Lib.hid hv
  have hS := mixL_perm (2 * (n % 12)) bs
  have hSl := mixL_length (2 * (n % 12)) bs
  have hok0 := made_ok (n % 12) 0 bs 0 (by omega) (by omega)
  have HM := Lib.hid (fun R w' (hI : Inv R w') (hv : FreeB R w' v bs) => made10_any R w' hI n 0 0 hn (by omega) (by omega) v bs hv)
  obtain ⟨S, hSe⟩ : ∃ S, mixL (2 * (n % 12)) bs = S := ⟨_, rfl⟩
  obtain ⟨r, hre⟩ : ∃ r, anyRoot (n % 12) 0 = r := ⟨_, rfl⟩
  obtain ⟨m, hm⟩ : ∃ m, 2 * (n % 12) = m := ⟨_, rfl⟩
  simp only [show ((0 : Nat) : Int) = 0 from rfl] at HM
  have hm22 : m ≤ 22 := by omega
  have hev : m % 2 = 0 := by omega
  rw [hSe, hre] at HM hok0
  rw [hSe, hm] at hSl
  rw [hSe] at hS
  rw [← hSl] at hev hm22
  obtain ⟨a0, c0, rfl, _⟩ := hv
  clear hSe hre hm hSl
  have HS := Lib.hid hS
  have HEv := Lib.hid hev
  have HOk := Lib.hid hok0
  clear hS hok0
  go_enter Try.func8, Try.ntmps8
  go_wp2_with fail
  refine HA.out.mono ?_
  rintro e w1 ⟨rfl, R1, he1⟩
  have HE1 := Lib.hid he1
  clear he1
  go_wp2_with fail
  refine (HM.out R1 w1 HE1.out.inv (HV.out.ev HE1.out)).mono ?_
  rintro e w2 ⟨p, a1, c1, R2, rfl, he2, hp2, hf2⟩
  unfold refV
  have hnone : R2 w2.heap.size = none := he2.inv.none_of_ge (Nat.le_refl _)
  have hI3 := he2.inv.alloc (.cells #[.slice a1 S.length c1, .int .i64 r, .int .i64 0] 27)
  have hf3 := hf2.ev ((Ev.refl he2.inv).alloc (.cells #[.slice a1 S.length c1, .int .i64 r, .int .i64 0] 27))
  have HE2 := Lib.hid (HE1.out.trans he2)
  have HP3 := Lib.hid hp2
  have HX := Lib.hid (fun R' w' (h : Ev R2 (w2.alloc (.cells #[.slice a1 S.length c1, .int .i64 r, .int .i64 0] 27)) R' w') => h.ref3 hnone)
  have HF3 := Lib.hid hf3
  have HI3 := Lib.hid hI3
  clear he2 hp2 hf2 hI3 hnone hf3
  go_upto_region 4 with fail
  obtain ⟨w3, hw3⟩ : ∃ w3, w3 = w2.alloc (.cells #[.slice a1 S.length c1, .int .i64 r, .int .i64 0] 27) := ⟨_, rfl⟩
  have HE3 : Hid (Ev noReg w R2 w3) := by rw [hw3]; exact HE2.out.alloc _
  rw [← hw3] at HX HF3 HI3 ⊢
  clear hw3 HE2
  have HEg := Lib.hid (fun R' w' (he : Ev R2 w3 R' w') => edges_any R' w' he.inv p S r 0 (he.map HP3.out))
  by_cases h2 : S.length / 2 < 2
  · have hb : decide (((S.length / 2 : Nat) : Int) < 2) = true := by simp; omega
    have hlp := eloops_any R2 w3 HI3.out p S r 0 HP3.out
    have hle := loopsTo_le S (S.length / 2)
    obtain ⟨lp, hlpe⟩ : ∃ l, loopsL S = l := ⟨_, rfl⟩
    have hl1 : lp ≤ 1 := by rw [← hlpe]; unfold loopsL; omega
    rw [hlpe] at hlp
    have HLp := Lib.hid hlp
    have hb2 : decide ((lp : Int) ≤ 1) = true := by simp; omega
    have hb3 : ((S.length / 2 : Nat) : Int) < 2 := by omega
    have hb4 : (lp : Int) ≤ 1 := by omega
    clear hlp hle hlpe
    go_wp2_with fail
    refine (HEg.out _ _ (Ev.refl HI3.out)).mono ?_
    rintro e w' ⟨rfl, rfl⟩
    go_wp2_with fail
    refine HLp.out.mono ?_
    rintro e w5 ⟨rfl, R5, he5⟩
    have HE5 := Lib.hid (HE3.out.trans he5)
    clear he5
    go_wp2_with fail
    go_ret
    exact ⟨by simp, R5, HE5.out⟩
  · have hb : decide (((S.length / 2 : Nat) : Int) < 2) = false := by simp; omega
    have hb3 : ¬ ((S.length / 2 : Nat) : Int) < 2 := by omega
    obtain ⟨k, hk⟩ : ∃ k, ee % (S.length / 2) = k := ⟨_, rfl⟩
    have hkl : k < S.length / 2 := by rw [← hk]; exact Nat.mod_lt _ (by omega)
    have hk2 : 2 * k + 2 ≤ S.length := by omega
    obtain ⟨E, hE⟩ : ∃ E, S.length / 2 = E := ⟨_, rfl⟩
    rw [hE] at HEg hk hb hb3 hkl
    have HEl := Lib.hid hE
    have hE2 : ¬ E < 2 := by omega
    have hmod : (ee : Int) % (E : Int) = (k : Int) := by rw [← hk]; simp
    have hpos : (E : Int) ≠ 0 := by omega
    clear h2 hE
    have HNm := Lib.hid (fun R' w' (he : Ev R2 w3 R' w') => rnames_any R' w' he.inv _ S (HF3.out.ev he) HS.out (by omega))
    have hnl := namesL_length S
    have HNl := Lib.hid hnl
    have HTn := Lib.hid (turn_shrink HS.out HEv.out (e := k) (by omega))
    obtain ⟨x0, x1, x2⟩ := HX.out _ _ (Ev.refl HI3.out)
    have hw2 : IntKind.i64.wrap (2 * (k : Int)) = ((2 * k : Nat) : Int) := by rw [show 2 * (k : Int) = ((2 * k : Nat) : Int) by omega]; exact IntWalk.i64_in _ (by omega)
    have hw3 : IntKind.i64.wrap (((2 * k : Nat) : Int) + 1) = ((2 * k + 1 : Nat) : Int) := by rw [show ((2 * k : Nat) : Int) + 1 = ((2 * k + 1 : Nat) : Int) by omega]; exact IntWalk.i64_in _ (by omega)
    clear hk hnl
    go_wp2_with fail
    refine (HEg.out _ _ (Ev.refl HI3.out)).mono ?_
    rintro e w' ⟨rfl, rfl⟩
    go_wp2_with fail
    refine (HEg.out _ _ (Ev.refl HI3.out)).mono ?_
    rintro e w' ⟨rfl, rfl⟩
    go_wp2_with fail
    refine (HNm.out _ _ (Ev.refl HI3.out)).mono ?_
    rintro e w4 ⟨v4, rfl, he4, ho4⟩
    obtain ⟨a4, c4, rfl, _⟩ := ho4.ints.open
    rw [HNl.out] at ho4 ⊢
    have HE4 := Lib.hid he4
    have HO4 := Lib.hid ho4
    clear he4 ho4 x0 x1 x2
    obtain ⟨g4, rfl, _, _, k0, _⟩ := HO4.out.headAt HNl.out (i := 2 * k) (by omega)
    obtain ⟨_, e1, _, _, k1, _⟩ := HO4.out.headAt HNl.out (i := 2 * k + 1) (by omega)
    cases e1
    have i0 : ((2 * k : Nat) : Int) < (S.length : Int) := by omega
    have i1 : ((2 * k + 1 : Nat) : Int) < (S.length : Int) := by omega
    have hee2 : ¬ (2 * k = 2 * k + 1) := by omega
    obtain ⟨n0, hn0⟩ : ∃ x, nth (namesL S) (2 * k) = x := ⟨_, rfl⟩
    obtain ⟨n1, hn1⟩ : ∃ x, nth (namesL S) (2 * k + 1) = x := ⟨_, rfl⟩
    rw [hn0] at k0
    rw [hn1] at k1
    have HN0 := Lib.hid hn0
    have HN1 := Lib.hid hn1
    clear hn0 hn1
    by_cases hnn : n0 = n1
    · have hbn : (n0 == n1) = true := by simp [hnn]
      have hlb : loopB S k = true := by unfold loopB; rw [HN0.out, HN1.out]; exact hbn
      have hlp := eloops_any R2 w4.drew HE4.out.drew.inv p S r 0 (HE4.out.map HP3.out)
      have hgt := loopsTo_pos hlb (S.length / 2) (by rw [HEl.out]; exact hkl)
      obtain ⟨lp, hlpe⟩ : ∃ l, loopsL S = l := ⟨_, rfl⟩
      have hl1 : 0 < lp := by rw [← hlpe]; unfold loopsL; exact hgt
      rw [hlpe] at hlp
      have HLp := Lib.hid hlp
      have hb5 : (0 : Int) < (lp : Int) := by omega
      clear hlp hgt hlpe hlb hnn
      go_wp2_with fail
      go_region
      all_goals (go_wp2_with fail)
      all_goals (refine HLp.out.mono ?_)
      all_goals (rintro e w5 ⟨rfl, R5, he5⟩)
      all_goals (have HE5 := Lib.hid (HE3.out.trans (HE4.out.drew.trans he5)); clear he5)
      all_goals (go_wp2_with fail)
      all_goals go_ret
      all_goals exact ⟨by first | rfl | (simp; done) | (simp; omega), R5, HE5.out⟩
    · have hbn : (n0 == n1) = false := by simp [hnn]
      have HSh := Lib.hid (shrink_any R2 w4.drew HE4.out.drew.inv p S r 0 (HE4.out.map HP3.out) k (by rw [HEl.out]; exact hkl) (by decide) (by rw [HN0.out, HN1.out]; exact hnn))
      clear hnn
      go_wp2_with fail
      go_region
      all_goals (go_wp2_with fail)
      all_goals (refine HSh.out.mono ?_)
      all_goals (rintro e w5 ⟨q, R5, rfl, he5, hq5⟩)
      all_goals (have HE5 := Lib.hid (HE4.out.drew.trans he5); have HQ5 := Lib.hid hq5; have HDu := Lib.hid (dual_any R5 w5 he5.inv p S r 0 (HE5.out.map HP3.out)); clear he5 hq5)
      all_goals (go_wp2_with fail)
      all_goals (refine HDu.out.mono ?_)
      all_goals (rintro e w6 ⟨d, R6, rfl, he6, hd6⟩)
      all_goals (have HE6 := Lib.hid (HE5.out.trans he6); have HQ6 := Lib.hid (he6.map HQ5.out); have HCu := Lib.hid (cut_any R6 w6 he6.inv d (phiL S) r 0 hd6 k (by rw [phiL_length, HEl.out]; exact hkl) (by decide)); clear he6 hd6)
      all_goals (go_wp2_with fail)
      all_goals (refine HCu.out.mono ?_)
      all_goals (rintro e w7 ⟨c, R7, rfl, he7, hc7⟩)
      all_goals (have HE7 := Lib.hid (HE6.out.trans he7); have HQ7 := Lib.hid (he7.map HQ6.out); have HC7 := Lib.hid hc7; have HDs := Lib.hid (dual_any R7 w7 he7.inv q _ _ _ (he7.map HQ6.out)); clear he7 hc7)
      all_goals (go_wp2_with fail)
      all_goals (refine HDs.out.mono ?_)
      all_goals (rintro e w8 ⟨ds, R8, rfl, he8, hd8⟩)
      all_goals (rw [HTn.out] at hd8)
      all_goals (have HE8 := Lib.hid (HE7.out.trans he8); have HC8 := Lib.hid (he8.map HC7.out); have HLd := Lib.hid (mlist_any R8 w8 he8.inv ds _ _ _ hd8); clear he8 hd8)
      all_goals (go_wp2_with fail)
      all_goals (refine HLd.out.mono ?_)
      all_goals (rintro e w9 ⟨v9, rfl, he9, ho9⟩)
      all_goals (have HE9 := Lib.hid (HE8.out.trans he9); have HO9 := Lib.hid ho9; have HLc := Lib.hid (mlist_any R8 w9 he9.inv c _ _ _ (he9.map HC8.out)); clear he9 ho9)
      all_goals (go_wp2_with fail)
      all_goals (refine HLc.out.mono ?_)
      all_goals (rintro e wA ⟨vA, rfl, heA, hoA⟩)
      all_goals (have HEA := Lib.hid (HE9.out.trans heA); have HOA := Lib.hid hoA; have HO9A := Lib.hid (HO9.out.ev heA); clear heA hoA)
      all_goals (have hlen : (toI (doneL (phiL S) k)).length ≤ 4194304 := by rw [toI_length, doneL_length, phiL_length]; omega)
      all_goals (have HEq := Lib.hid (equal_any R8 wA HEA.out.inv v9 vA _ _ HO9A.out.ints HOA.out.ints hlen hlen))
      all_goals (rw [eqL_true rfl] at HEq)
      all_goals (go_wp2_with fail)
      all_goals (refine HEq.out.mono ?_)
      all_goals (rintro e wB ⟨rfl, heB⟩)
      all_goals (have HEB := Lib.hid (HE3.out.trans (HEA.out.trans heB)); clear heB)
      all_goals (go_wp2_with fail)
      all_goals go_ret
      all_goals exact ⟨rfl, R8, HEB.out⟩

end Go.Proofs.Ytnbecpeiodcohaa
