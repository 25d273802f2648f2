/- parquetrylaw10: made, awake. Conditions: the bytes lie in memory. The dual has the same parts, of the same genus; the dual's dual is the map, the mirror's mirror too. Conditions: none. parquetryref10.Dual, Mirror; parquetrylaw10.like, where it is so. Conditions: the map's list lies in memory. parquetrylaw10.DualTwice, the walk: it answers true. Conditions: the bytes lie in memory. -/
import Derived.Test.YtnbecpeiodcohaaZDualTwice13
import Derived.Test.YtnbecpeiodcohaaZDualTwice22
import Derived.Test.YtnbecpeiodcohaaZDualTwice21
import Derived.Deep.RegionHeld3
import Derived.Test.YtnbecpeiodcohaaZDualTwice18
namespace Go.Proofs.Ytnbecpeiodcohaa
open Go.RowKit
set_option linter.unusedVariables false

set_option maxRecDepth 100000 in
set_option maxHeartbeats 2000000 in
theorem made10_any (R : Reg) (w : World) (hI : Inv R w) (n rt ln : Nat) (hn : n ≤ 255) (hr : rt ≤ 255) (hl : ln ≤ 255) (v : Value) (bs : List Nat) (hv : FreeB R w v bs) :
    Calls Try.prog 42 #[.int .u8 (n : Int), v, .int .u8 (rt : Int), .int .u8 (ln : Int)] w (MadeMap R w (mixL (2 * (n % 12)) bs) (anyRoot (n % 12) rt) ((ln % 3 : Nat) : Int)) := by
  have he0 : Ev R w R (w.alloc (.cells #[.slice none 0 0, .int .i64 0, .int .i64 0] 27)) := (Ev.refl hI).alloc _
  have hm := rany_any R _ he0.inv (n % 12) (by omega) v bs (hv.ev he0) rt hr
  have hok := made_ok (n % 12) rt bs (ln % 3) (by omega) (by omega)
  have hS := mixL_perm (2 * (n % 12)) bs
  rw [show ((n % 12 : Nat) : Int) = (n : Int) % 12 from by omega] at hm
  obtain ⟨S, hSe⟩ : ∃ S, mixL (2 * (n % 12)) bs = S := ⟨_, rfl⟩
  obtain ⟨r, hre⟩ : ∃ r, anyRoot (n % 12) rt = r := ⟨_, rfl⟩
  rw [show ((ln % 3 : Nat) : Int) = (ln : Int) % 3 from by omega] at hok ⊢
  rw [hSe, hre] at hm hok ⊢
  rw [hSe] at hS
  have HM := Lib.hid hm
  have HOK := Lib.hid hok
  have HS := Lib.hid hS
  have HE0 := Lib.hid he0
  have HI := Lib.hid hI
  obtain ⟨a0, c0, rfl, _⟩ := hv
  clear hm he0 hI hSe hre hok hS
  go_enter Try.func42, Try.ntmps42
  go_wp2_with fail
  refine HM.out.mono ?_
  rintro e w1 ⟨a1, c1, rfl, he1, ho1⟩
  unfold refV
  have hz := he1.size
  simp only [World.size_alloc] at hz
  have hc0 : w1.heap[w.heap.size]? = some (.cells #[.slice none 0 0, .int .i64 0, .int .i64 0] 27 (0, 0)) := by
    rw [he1.block _ (by simp) (HI.out.none_of_ge (Nat.le_refl _))]
    exact heap_alloc_new w _
  have he2 := (HE0.out.trans he1).alloc (.cells #[.slice a1 S.length c1, .int .i64 r, .int .i64 ((ln : Int) % 3)] 27)
  have ho2 := ho1.alloc (.cells #[.slice a1 S.length c1, .int .i64 r, .int .i64 ((ln : Int) % 3)] 27)
  have hnew := new_yes R _ he2.inv (.slice a1 S.length c1) S ho2.free r ((ln : Int) % 3) HS.out HOK.out
  have HN := Lib.hid hnew
  have HE1 := Lib.hid (HE0.out.trans he1)
  have HE2 := Lib.hid he2
  have HO2 := Lib.hid ho2
  have HC0 := Lib.hid hc0
  clear he1 ho1 he2 ho2 hnew hc0
  go_wp2_with fail
  refine HN.out.mono ?_
  rintro e w2 ⟨p, R2, rfl, he3, hm3⟩
  have hsz1 : w1.heap.size + 1 ≤ w2.heap.size := by have := he3.size; simpa using this
  have hb1 : w2.heap[w1.heap.size]? = some (.cells #[.slice a1 S.length c1, .int .i64 r, .int .i64 ((ln : Int) % 3)] 27 (0, 0)) := by
    rw [he3.block _ (by simp) (HE1.out.inv.none_of_ge (Nat.le_refl _))]
    exact heap_alloc_new w1 _
  have hb0 : w2.heap[w.heap.size]? = some (.cells #[.slice none 0 0, .int .i64 0, .int .i64 0] 27 (0, 0)) := by
    rw [he3.block _ (by simp; omega) (HI.out.none_of_ge (Nat.le_refl _)), Below.heap_alloc _ _ _ (by omega)]
    exact HC0.out
  have k0 : w2.cell? ⟨w1.heap.size, 0, none⟩ = some (.slice a1 S.length c1) := by simp [World.cell?, hb1]
  have k1 : w2.cell? ⟨w1.heap.size, 1, none⟩ = some (.int .i64 r) := by simp [World.cell?, hb1]
  have k2 : w2.cell? ⟨w1.heap.size, 2, none⟩ = some (.int .i64 ((ln : Int) % 3)) := by simp [World.cell?, hb1]
  have j0 : w2.cell? ⟨w.heap.size, 0, none⟩ = some (.slice none 0 0) := by simp [World.cell?, hb0]
  have j1 : w2.cell? ⟨w.heap.size, 1, none⟩ = some (.int .i64 0) := by simp [World.cell?, hb0]
  have j2 : w2.cell? ⟨w.heap.size, 2, none⟩ = some (.int .i64 0) := by simp [World.cell?, hb0]
  have z0 : ∀ o, w2.frozen? ⟨w.heap.size, o, none⟩ = false := fun o => by simp [World.frozen?, hb0]
  have HB0 := Lib.hid hb0
  have HE3 := Lib.hid he3
  have HM3 := Lib.hid hm3
  have hn2 : R2 w.heap.size = none := he3.free _ (by simp; omega) (HI.out.none_of_ge (Nat.le_refl _))
  have HN2 := Lib.hid hn2
  clear hb0 hb1 he3 hm3 hn2
  go_wp2_with fail
  go_region
  all_goals go_wp2_with fail
  have hb3 := set3 (x := .slice a1 S.length c1) (y := .int .i64 r) (z := .int .i64 ((ln : Int) % 3)) HB0.out
  have w0 : ((((w2.setCell ⟨w.heap.size, 0, none⟩ (.slice a1 S.length c1)).setCell ⟨w.heap.size, 1, none⟩ (.int .i64 r)).setCell ⟨w.heap.size, 2, none⟩ (.int .i64 ((ln : Int) % 3))).drew).cell? ⟨w.heap.size, 0, none⟩ = some (.slice a1 S.length c1) := by rw [World.cell?_drew, cells_at hb3]; rfl
  have w1' : ((((w2.setCell ⟨w.heap.size, 0, none⟩ (.slice a1 S.length c1)).setCell ⟨w.heap.size, 1, none⟩ (.int .i64 r)).setCell ⟨w.heap.size, 2, none⟩ (.int .i64 ((ln : Int) % 3))).drew).cell? ⟨w.heap.size, 1, none⟩ = some (.int .i64 r) := by rw [World.cell?_drew, cells_at hb3]; rfl
  have w2' : ((((w2.setCell ⟨w.heap.size, 0, none⟩ (.slice a1 S.length c1)).setCell ⟨w.heap.size, 1, none⟩ (.int .i64 r)).setCell ⟨w.heap.size, 2, none⟩ (.int .i64 ((ln : Int) % 3))).drew).cell? ⟨w.heap.size, 2, none⟩ = some (.int .i64 ((ln : Int) % 3)) := by rw [World.cell?_drew, cells_at hb3]; rfl
  refine bodyPost_ret (v := .tuple #[p, refV (.slice a1 S.length c1) r ((ln : Int) % 3)]) ?_ rfl ⟨p, a1, c1, R2, rfl, ?_, HM3.out, ?_⟩
  · simp only [World.cell?_drew] at w0 w1' w2'
    simp [results, Try.results42, go_sem, w0, w1', w2', refV]
  · exact ((((HE2.out.trans HE3.out).setCell (Nat.le_refl _) HN2.out _).setCell (Nat.le_refl _) HN2.out _).setCell (Nat.le_refl _) HN2.out _).drew
  · have ho3 := HO2.out.ev HE3.out
    have hne : ∀ (o : Nat), (Value.slice a1 S.length c1).ownBlock ≠ some (⟨w.heap.size, o, none⟩ : Addr).block := fun o e => by
      have h : w.heap.size + 1 ≤ w.heap.size := by have := (ho3.lt _ e).1; simpa using this
      omega
    exact ((((ho3.setCell (hne 0) _).setCell (hne 1) _).setCell (hne 2) _).drew).free

theorem d10a : (sizesL (phiL [0, 1])).length = 1 := by decide
theorem d10b : (sizesL (phiL (phiL [0, 1]))).length = 2 := by decide
theorem d10c : cutLone [0, 1] 0 = 2 := by decide
theorem d10d : shrLone [0, 1] 0 = 1 := by decide
theorem d10e : nth (namesL [0, 1]) 0 ≠ nth (namesL [0, 1]) 1 := by decide

set_option maxRecDepth 100000 in
set_option maxHeartbeats 2000000 in
theorem awake10_any (R : Reg) (w : World) (hI : Inv R w) : Calls Try.prog 41 #[] w (RetTrue R w) := by
  have hok1 : MapOk [0, 1] 0 0 := by unfold MapOk; simp
  have h1 := new_yes R _ (hI.alloc _) _ [0, 1] (FreeI.two hI 0 1) 0 0 perm01 hok1
  have H1 := Lib.hid h1
  have HI := Lib.hid hI
  clear h1 hI hok1
  go_enter Try.func41, Try.ntmps41
  go_wp2_with fail
  refine H1.out.mono ?_
  rintro e w1 ⟨p, R1, rfl, he1, hp⟩
  have he1' := ((Ev.refl HI.out).alloc (.cells #[.int .i64 0, .int .i64 1] 3)).trans he1
  have HDu := Lib.hid (dual_any R1 w1 he1.inv p [0, 1] 0 0 hp)
  have HP := Lib.hid hp
  have HE1 := Lib.hid he1'
  clear he1 he1' hp
  go_wp2_with fail
  refine HDu.out.mono ?_
  rintro e w2 ⟨d, R2, rfl, he2, hd⟩
  have hc := cut_any R2 w2 he2.inv p [0, 1] 0 0 (he2.map HP.out) 0 (by decide) (by decide)
  rw [d10c] at hc
  have HCu := Lib.hid hc
  have HE2 := Lib.hid (HE1.out.trans he2)
  have HD2 := Lib.hid hd
  have HP2 := Lib.hid (he2.map HP.out)
  clear he2 hd hc HP HE1
  go_wp2_with fail
  refine HCu.out.mono ?_
  rintro e w3 ⟨c, R3, rfl, he3, hc⟩
  have hs := shrink_any R3 w3 he3.inv p [0, 1] 0 0 (he3.map HP2.out) 0 (by decide) (by decide) d10e
  rw [d10d] at hs
  have HSh := Lib.hid hs
  have HE3 := Lib.hid (HE2.out.trans he3)
  have HC3 := Lib.hid hc
  have HD3 := Lib.hid (he3.map HD2.out)
  clear he3 hc hs HP2 HE2 HD2
  go_wp2_with fail
  refine HSh.out.mono ?_
  rintro e w4 ⟨q, R4, rfl, he4, hq⟩
  have hv := vertices_any R4 w4 he4.inv d (phiL [0, 1]) 0 0 (he4.map HD3.out)
  rw [d10a] at hv
  have HV := Lib.hid hv
  have HE4 := Lib.hid (HE3.out.trans he4)
  have HC4 := Lib.hid (he4.map HC3.out)
  have HD4 := Lib.hid (he4.map HD3.out)
  have HQ4 := Lib.hid hq
  clear he4 hv hq HE3 HC3 HD3
  go_wp2_with fail
  refine HV.out.mono ?_
  rintro e w5 ⟨rfl, R5, he5⟩
  have hb := borders_any R5 w5 he5.inv d (phiL [0, 1]) 0 0 (he5.map HD4.out)
  rw [d10b] at hb
  have HB := Lib.hid hb
  have HE5 := Lib.hid (HE4.out.trans he5)
  have HC5 := Lib.hid (he5.map HC4.out)
  have HQ5 := Lib.hid (he5.map HQ4.out)
  clear he5 hb
  go_wp2_with fail
  refine HB.out.mono ?_
  rintro e w6 ⟨rfl, R6, he6⟩
  have HL1 := Lib.hid (lone_any R6 w6 he6.inv c _ _ _ (he6.map HC5.out))
  have HL2 := Lib.hid (lone_any R6 w6 he6.inv q _ _ _ (he6.map HQ5.out))
  have HE6 := Lib.hid (HE5.out.trans he6)
  clear he6
  go_wp2_with fail
  refine HL1.out.mono ?_
  rintro e w' ⟨rfl, rfl⟩
  go_wp2_with fail
  refine HL2.out.mono ?_
  rintro e w' ⟨rfl, rfl⟩
  go_wp2_with fail
  go_ret
  exact ⟨rfl, R6, HE6.out⟩

end Go.Proofs.Ytnbecpeiodcohaa

namespace Go.Proofs.Ytnbecpeiodcohaa
set_option linter.unusedVariables false

theorem eq_at {s t : List Nat} (h : s.length = t.length) (hk : ∀ j, j < s.length → at' s j = at' t j) : s = t := by
  refine List.ext_getElem h fun i h1 h2 => ?_
  have := hk i h1
  simpa [at', h1, h2] using this

section
variable {s : List Nat} (hs : IsPerm s) (he : s.length % 2 = 0)

include he in
theorem phi_phi : phiL (phiL s) = s := by
  refine eq_at (by rw [phiL_length, phiL_length]) fun j hj => ?_
  rw [phiL_length, phiL_length] at hj
  rw [phiL_at (by rw [phiL_length]; exact hj), phiL_at (xor_one_lt he hj), xor_one_one]

include hs in
theorem inv_inv : invL (invL s) = s := by
  have hi := invL_perm hs
  refine eq_at (by rw [invL_length, invL_length]) fun j hj => ?_
  rw [invL_length, invL_length] at hj
  have h := (at_invL hi (y := j) (by rw [invL_length]; exact hj))
  rw [invL_length] at h
  refine hi.inj (by rw [invL_length]; exact h.2) (by rw [invL_length]; exact hs.lt hj) ?_
  rw [h.1, invL_at hs hj]

include hs he
theorem con_phi_sub {x y : Nat} (h : Con (phiL s) x y) : Con s x y := by
  refine Con.sub (phiL_perm hs he) (r := Con s) (by rw [phiL_length]; exact Con.per hs) (fun z hz => ?_) (fun z hz => ?_) h
  · rw [phiL_length] at hz
    rw [phiL_at hz]
    exact (Con.per hs).trans (Con.mate hs he hz) (Con.step hs (xor_one_lt he hz))
  · rw [phiL_length] at hz
    exact Con.mate hs he hz
theorem con_phi (x y : Nat) (hx : x < s.length) (hy : y < s.length) : Con (phiL s) x y ↔ Con s x y := by
  refine ⟨con_phi_sub hs he, fun h => ?_⟩
  have := con_phi_sub (phiL_perm hs he) (by rw [phiL_length]; exact he) (x := x) (y := y)
  rw [phi_phi he] at this
  exact this h
theorem partsL_phi : partsL (phiL s) = partsL s := by
  have h1 := partsL_ord (phiL_perm hs he) (by rw [phiL_length]; exact he)
  rw [phiL_length] at h1
  exact (h1.congr (con_phi hs he)).unique (partsL_ord hs he)
theorem partsN_phi : partsN (phiL s) = partsN s := by
  have h1 := partsL_ord (phiL_perm hs he) (by rw [phiL_length]; exact he)
  rw [phiL_length] at h1
  have a := (h1.congr (con_phi hs he)).cnt_eq (Nat.le_refl _)
  have b := (partsL_ord hs he).cnt_eq (Nat.le_refl _)
  unfold partsN
  rw [phiL_length]
  exact a.trans b.symm
theorem genOf_phi (k : Nat) : genOf (phiL s) (partsL (phiL s)) k = genOf s (partsL s) k := by
  unfold genOf
  rw [partsL_phi hs he, phiL_length, phi_phi he]
  congr 1
  omega
theorem genusTo_phi : ∀ k, genusTo (phiL s) k = genusTo s k
  | 0 => rfl
  | k + 1 => by unfold genusTo; rw [genusTo_phi k, genOf_phi hs he]
theorem genusL_phi : genusL (phiL s) = genusL s := by
  unfold genusL; rw [partsN_phi hs he, genusTo_phi hs he]
end
end Go.Proofs.Ytnbecpeiodcohaa

namespace Go.Proofs.Ytnbecpeiodcohaa
open Go.RowKit
set_option linter.unusedVariables false

/-- a map's box, later on -/
theorem Ev.box3 {R R' : Reg} {w0 w' : World} {b : Nat} {x y z : Value} {T : TypeId} (hb : w0.heap[b]? = some (.cells #[x, y, z] T (0, 0))) (hn : R b = none) (h : Ev R w0 R' w') :
    w'.heap[b]? = some (.cells #[x, y, z] T (0, 0)) ∧ R' b = none := ⟨(h.block b (lt_of_block hb) hn).trans hb, h.free b (lt_of_block hb) hn⟩
theorem box_cells {w : World} {b : Nat} {x y z : Value} {T : TypeId} (hb : w.heap[b]? = some (.cells #[x, y, z] T (0, 0))) : w.cell? ⟨b, 0, none⟩ = some x ∧ w.cell? ⟨b, 1, none⟩ = some y ∧ w.cell? ⟨b, 2, none⟩ = some z ∧ ∀ o, w.frozen? ⟨b, o, none⟩ = false :=
  ⟨cells_at hb 0, cells_at hb 1, cells_at hb 2, fun o => by simp [World.frozen?, hb]⟩

theorem build_map (a : Option Addr) (n c : Nat) (r l : Int) (W : World) : (Instr.build 27 #[(0, .slice a n c), (1, .int .i64 r), (2, .int .i64 l)]).run Try.prog W = .ok (.agg #[.slice a n c, .int .i64 r, .int .i64 l]) W := by
  first | kernel_rfl | rfl | (go_simp; done) | (simp [go_sem]; done)

set_option maxRecDepth 100000 in
set_option maxHeartbeats 2000000 in
theorem r10dual_any (R : Reg) (w : World) (hI : Inv R w) (v : Value) (s : List Nat) (root lone : Int) (hv : FreeI R w v (toI s)) (hS : IsPerm s) (hn : s.length ≤ 1000000) (he : s.length % 2 = 0) :
    Calls Try.prog 63 #[refV v root lone] w (RetMap R w (phiL s) root lone) := by
  obtain ⟨a0, cap0, rfl, _⟩ := hv.open
  rw [toI_length] at hv ⊢
  have HC := Lib.hid (fun R' w' (hee : Ev R w R' w') => rphi_any R' w' hee.inv _ s root lone (hv.ev hee) (by omega) he)
  have hll : (phiL s).length = s.length := phiL_length s
  obtain ⟨L, hL⟩ : ∃ L, phiL s = L := ⟨_, rfl⟩
  rw [hL] at HC hll ⊢
  have HLl := Lib.hid hll
  try unfold refV at HC
  unfold refV
  obtain ⟨A, hA⟩ : ∃ A : Value, A = .slice a0 s.length cap0 := ⟨_, rfl⟩
  rw [toI_length] at *
  have he1 : Ev R w R (w.alloc (.cells #[.slice a0 s.length cap0, .int .i64 root, .int .i64 lone] 27)) := (Ev.refl hI).alloc _
  have he2 := he1.alloc (.cells #[.slice none 0 0, .int .i64 0, .int .i64 0] 27)
  have hb1 : ((w.alloc (.cells #[.slice a0 s.length cap0, .int .i64 root, .int .i64 lone] 27)).alloc (.cells #[.slice none 0 0, .int .i64 0, .int .i64 0] 27)).heap[w.heap.size]? = some (.cells #[.slice a0 s.length cap0, .int .i64 root, .int .i64 lone] 27 (0, 0)) := by
    rw [Below.heap_alloc _ _ _ (by simp)]
    exact heap_alloc_new w _
  have hb2 : ((w.alloc (.cells #[.slice a0 s.length cap0, .int .i64 root, .int .i64 lone] 27)).alloc (.cells #[.slice none 0 0, .int .i64 0, .int .i64 0] 27)).heap[w.heap.size + 1]? = some (.cells #[.slice none 0 0, .int .i64 0, .int .i64 0] 27 (0, 0)) := by
    have := heap_alloc_new (w.alloc (.cells #[.slice a0 s.length cap0, .int .i64 root, .int .i64 lone] 27)) (.cells #[.slice none 0 0, .int .i64 0, .int .i64 0] 27)
    simpa using this
  have hn1 : R w.heap.size = none := hI.none_of_ge (Nat.le_refl _)
  have hn2 : R (w.heap.size + 1) = none := hI.none_of_ge (by omega)
  have HI := Lib.hid hI
  clear hI hv hS hn he he1 hA hL hll
  go_enter Try.func63, Try.ntmps63
  go_upto_region 1 with fail
  obtain ⟨w2, hw2⟩ : ∃ w2, w2 = (w.alloc (.cells #[.slice a0 s.length cap0, .int .i64 root, .int .i64 lone] 27)).alloc (.cells #[.slice none 0 0, .int .i64 0, .int .i64 0] 27) := ⟨_, rfl⟩
  rw [← hw2] at he2 hb1 hb2 ⊢
  have HB1 := Lib.hid (fun R' w' (h : Ev R w2 R' w') => h.box3 hb1 hn1)
  have HB2 := Lib.hid (fun R' w' (h : Ev R w2 R' w') => h.box3 hb2 hn2)
  have HE2 := Lib.hid he2
  have HEd := Lib.hid ((Ev.refl he2.inv).drew)
  have hbd := build_map
  obtain ⟨x0, x1, x2, _⟩ := box_cells (HB1.out _ _ HEd.out).1
  clear hw2 he2 hb1 hb2 hn1 hn2
  go_region_with (first
    | (go_at_call 78; refine (HC.out _ _ (HE2.out.trans HEd.out)).mono ?_; rintro z w3 ⟨v3, rfl, he3, ho3⟩; obtain ⟨a3, c3, rfl, _⟩ := ho3.ints.open; (try simp only [toI_length] at ho3 ⊢); have HO3 := Lib.hid ho3; have HEd := Lib.hid (HEd.out.trans he3); clear he3 ho3; obtain ⟨x0, x1, x2, _⟩ := box_cells (HB1.out _ _ HEd.out).1; obtain ⟨y0, y1, y2, yz⟩ := box_cells (HB2.out _ _ HEd.out).1))
  all_goals (go_wp2_with fail)
  all_goals (
    have hb3 := set3 (x := .slice a3 L.length c3) (y := .int .i64 root) (z := .int .i64 lone) (HB2.out _ _ HEd.out).1
    obtain ⟨u0, u1, u2, _⟩ := box_cells hb3
    have hn2 := (HB2.out _ _ HEd.out).2
    refine bodyPost_ret (v := refV (.slice a3 L.length c3) root lone) ?_ rfl ⟨a3, c3, rfl, ?_, ?_⟩
    · simp [results, Try.results63, go_sem, u0, u1, u2, refV]
    · exact (((HE2.out.trans HEd.out).setCell (by simp) hn2 _).setCell (by simp) hn2 _).setCell (by simp) hn2 _
    · have hne : ∀ (o : Nat), (Value.slice a3 L.length c3).ownBlock ≠ some (⟨w.heap.size + 1, o, none⟩ : Addr).block := fun o e => by
        have h1 := (HO3.out.lt _ e).1
        have h2 := lt_of_block (HB2.out _ _ (Ev.refl HE2.out.inv)).1
        simp at h1 h2
        omega
      exact (((HO3.out.mono (by have := HE2.out.size; simpa using this)).setCell (hne 0) _).setCell (hne 1) _).setCell (hne 2) _)

set_option maxRecDepth 100000 in
set_option maxHeartbeats 2000000 in
theorem r10mirror_any (R : Reg) (w : World) (hI : Inv R w) (v : Value) (s : List Nat) (root lone : Int) (hv : FreeI R w v (toI s)) (hS : IsPerm s) (hn : s.length ≤ 1000000) (he : s.length % 2 = 0) :
    Calls Try.prog 64 #[refV v root lone] w (RetMap R w (invL s) root lone) := by
  obtain ⟨a0, cap0, rfl, _⟩ := hv.open
  rw [toI_length] at hv ⊢
  have HC := Lib.hid (fun R' w' (hee : Ev R w R' w') => rinverse_any R' w' hee.inv _ s (hv.ev hee) hS (by omega))
  have hll : (invL s).length = s.length := invL_length s
  obtain ⟨L, hL⟩ : ∃ L, invL s = L := ⟨_, rfl⟩
  rw [hL] at HC hll ⊢
  have HLl := Lib.hid hll
  try unfold refV at HC
  unfold refV
  obtain ⟨A, hA⟩ : ∃ A : Value, A = .slice a0 s.length cap0 := ⟨_, rfl⟩
  rw [toI_length] at *
  have he1 : Ev R w R (w.alloc (.cells #[.slice a0 s.length cap0, .int .i64 root, .int .i64 lone] 27)) := (Ev.refl hI).alloc _
  have he2 := he1.alloc (.cells #[.slice none 0 0, .int .i64 0, .int .i64 0] 27)
  have hb1 : ((w.alloc (.cells #[.slice a0 s.length cap0, .int .i64 root, .int .i64 lone] 27)).alloc (.cells #[.slice none 0 0, .int .i64 0, .int .i64 0] 27)).heap[w.heap.size]? = some (.cells #[.slice a0 s.length cap0, .int .i64 root, .int .i64 lone] 27 (0, 0)) := by
    rw [Below.heap_alloc _ _ _ (by simp)]
    exact heap_alloc_new w _
  have hb2 : ((w.alloc (.cells #[.slice a0 s.length cap0, .int .i64 root, .int .i64 lone] 27)).alloc (.cells #[.slice none 0 0, .int .i64 0, .int .i64 0] 27)).heap[w.heap.size + 1]? = some (.cells #[.slice none 0 0, .int .i64 0, .int .i64 0] 27 (0, 0)) := by
    have := heap_alloc_new (w.alloc (.cells #[.slice a0 s.length cap0, .int .i64 root, .int .i64 lone] 27)) (.cells #[.slice none 0 0, .int .i64 0, .int .i64 0] 27)
    simpa using this
  have hn1 : R w.heap.size = none := hI.none_of_ge (Nat.le_refl _)
  have hn2 : R (w.heap.size + 1) = none := hI.none_of_ge (by omega)
  have HI := Lib.hid hI
  clear hI hv hS hn he he1 hA hL hll
  go_enter Try.func64, Try.ntmps64
  go_upto_region 1 with fail
  obtain ⟨w2, hw2⟩ : ∃ w2, w2 = (w.alloc (.cells #[.slice a0 s.length cap0, .int .i64 root, .int .i64 lone] 27)).alloc (.cells #[.slice none 0 0, .int .i64 0, .int .i64 0] 27) := ⟨_, rfl⟩
  rw [← hw2] at he2 hb1 hb2 ⊢
  have HB1 := Lib.hid (fun R' w' (h : Ev R w2 R' w') => h.box3 hb1 hn1)
  have HB2 := Lib.hid (fun R' w' (h : Ev R w2 R' w') => h.box3 hb2 hn2)
  have HE2 := Lib.hid he2
  have HEd := Lib.hid ((Ev.refl he2.inv).drew)
  have hbd := build_map
  obtain ⟨x0, x1, x2, _⟩ := box_cells (HB1.out _ _ HEd.out).1
  clear hw2 he2 hb1 hb2 hn1 hn2
  go_region_with (first
    | (go_at_call 107; refine (HC.out _ _ (HE2.out.trans HEd.out)).mono ?_; rintro z w3 ⟨v3, rfl, he3, ho3⟩; obtain ⟨a3, c3, rfl, _⟩ := ho3.ints.open; (try simp only [toI_length] at ho3 ⊢); have HO3 := Lib.hid ho3; have HEd := Lib.hid (HEd.out.trans he3); clear he3 ho3; obtain ⟨x0, x1, x2, _⟩ := box_cells (HB1.out _ _ HEd.out).1; obtain ⟨y0, y1, y2, yz⟩ := box_cells (HB2.out _ _ HEd.out).1))
  all_goals (go_wp2_with fail)
  all_goals (
    have hb3 := set3 (x := .slice a3 L.length c3) (y := .int .i64 root) (z := .int .i64 lone) (HB2.out _ _ HEd.out).1
    obtain ⟨u0, u1, u2, _⟩ := box_cells hb3
    have hn2 := (HB2.out _ _ HEd.out).2
    refine bodyPost_ret (v := refV (.slice a3 L.length c3) root lone) ?_ rfl ⟨a3, c3, rfl, ?_, ?_⟩
    · simp [results, Try.results64, go_sem, u0, u1, u2, refV]
    · exact (((HE2.out.trans HEd.out).setCell (by simp) hn2 _).setCell (by simp) hn2 _).setCell (by simp) hn2 _
    · have hne : ∀ (o : Nat), (Value.slice a3 L.length c3).ownBlock ≠ some (⟨w.heap.size + 1, o, none⟩ : Addr).block := fun o e => by
        have h1 := (HO3.out.lt _ e).1
        have h2 := lt_of_block (HB2.out _ _ (Ev.refl HE2.out.inv)).1
        simp at h1 h2
        omega
      exact (((HO3.out.mono (by have := HE2.out.size; simpa using this)).setCell (hne 0) _).setCell (hne 1) _).setCell (hne 2) _)

set_option maxRecDepth 100000 in
set_option maxHeartbeats 4000000 in
theorem like_yes (R : Reg) (w : World) (hI : Inv R w) (p v : Value) (s : List Nat) (root lone : Int) (hp : MapAt R p s root lone) (hv : FreeI R w v (toI s)) :
    Calls Try.prog 57 #[p, refV v root lone] w fun e w' => e = .returned (.bool true) ∧ Ev R w R w' := by
  obtain ⟨hS, hok⟩ := hp.ok hI
  have hn := hok.2.1
  obtain ⟨a0, cap0, rfl, hv0⟩ := hv.open
  rw [toI_length] at hv hv0 ⊢
  have HLs := Lib.hid (fun w' (he : Ev R w R w') => mlist_any R w' he.inv p s root lone (he.map hp))
  have HRt := Lib.hid (fun w' (he : Ev R w R w') => root_any R w' he.inv p s root lone (he.map hp))
  have HLn := Lib.hid (fun w' (he : Ev R w R w') => lone_any R w' he.inv p s root lone (he.map hp))
  have HEq := Lib.hid (fun w' (he : Ev R w R w') u (hu : Ints w' u (toI s)) => equal_any R w' he.inv u (.slice a0 s.length cap0) (toI s) (toI s) hu (hv.ev he).1 (by rw [toI_length]; omega) (by rw [toI_length]; omega))
  rw [eqL_true rfl] at HEq
  obtain ⟨b, rfl, hb⟩ := hp
  unfold refV
  have he1 : Ev R w R (w.alloc (.cells #[.slice a0 s.length cap0, .int .i64 root, .int .i64 lone] 27)) := (Ev.refl hI).alloc _
  have hn1 : R w.heap.size = none := hI.none_of_ge (Nat.le_refl _)
  have HB1 := Lib.hid (fun w' (h : Ev R (w.alloc (.cells #[.slice a0 s.length cap0, .int .i64 root, .int .i64 lone] 27)) R w') => h.box3 (heap_alloc_new w _) hn1)
  have HE1 := Lib.hid he1
  have g1 : (root == root) = true := by simp
  have g2 : (lone == lone) = true := by simp
  clear hI hS hok hb hv hv0 hn1
  go_enter Try.func57, Try.ntmps57
  go_upto_region 1 with fail
  have HEd := Lib.hid ((Ev.refl he1.inv).drew)
  obtain ⟨x0, x1, x2, _⟩ := box_cells (HB1.out _ HEd.out).1
  clear he1
  go_region_held3 (fun w' => w'.cell? ⟨w.heap.size, 0, none⟩ = some (.slice a0 s.length cap0) ∧ w'.cell? ⟨w.heap.size, 1, none⟩ = some (.int .i64 root) ∧ w'.cell? ⟨w.heap.size, 2, none⟩ = some (.int .i64 lone)) (exact ⟨x0, x1, x2⟩) (first
    | (go_at_call 50; refine (HLs.out _ (HE1.out.trans HEd.out)).mono ?_; rintro z w3 ⟨v3, rfl, he3, ho3⟩; have HO3 := Lib.hid ho3; have HEd := Lib.hid (HEd.out.trans he3); clear he3 ho3; obtain ⟨x0, x1, x2, _⟩ := box_cells (HB1.out _ HEd.out).1)
    | (go_at_call 49; refine (HEq.out _ (HE1.out.trans HEd.out) _ HO3.out.ints).mono ?_; rintro z w4 ⟨rfl, he4⟩; have HEd := Lib.hid (HEd.out.trans he4); clear he4; obtain ⟨x0, x1, x2, _⟩ := box_cells (HB1.out _ HEd.out).1)
    | (go_at_call 70; refine (HRt.out _ (HE1.out.trans HEd.out)).mono ?_; rintro z w' ⟨rfl, rfl⟩)
    | (go_at_call 62; refine (HLn.out _ (HE1.out.trans HEd.out)).mono ?_; rintro z w' ⟨rfl, rfl⟩))
  all_goals (go_wp2_with fail)
  all_goals go_ret
  all_goals exact ⟨rfl, HE1.out.trans HEd.out⟩

end Go.Proofs.Ytnbecpeiodcohaa

namespace Go.Proofs.Ytnbecpeiodcohaa
open Go.RowKit
set_option linter.unusedVariables false

set_option maxRecDepth 100000 in
set_option maxHeartbeats 16000000 in
theorem dualTwice_walk (w : World) (n rt ln : Nat) (hn : n ≤ 255) (hr : rt ≤ 255) (hl : ln ≤ 255) (v : Value) (bs : List Nat) (hv : FreeB noReg w v bs) :
    Calls Try.prog 13 #[.int .u8 (n : Int), v, .int .u8 (rt : Int), .int .u8 (ln : Int)] w (RetTrue noReg w) := by
  have HA := Lib.hid (awake10_any noReg w (Inv.noReg w))
  have hnot := not_run
  have HV := Lib.hid hv
  have hS := mixL_perm (2 * (n % 12)) bs
  have hSl := mixL_length (2 * (n % 12)) bs
  have hok0 := made_ok (n % 12) rt bs (ln % 3) (by omega) (by omega)
  have HM := Lib.hid (fun R w' (hI : Inv R w') (hv : FreeB R w' v bs) => made10_any R w' hI n rt ln hn hr hl v bs hv)
  obtain ⟨S, hSe⟩ : ∃ S, mixL (2 * (n % 12)) bs = S := ⟨_, rfl⟩
  obtain ⟨r, hre⟩ : ∃ r, anyRoot (n % 12) rt = r := ⟨_, rfl⟩
  obtain ⟨m, hm⟩ : ∃ m, 2 * (n % 12) = m := ⟨_, rfl⟩
  obtain ⟨ll, hll⟩ : ∃ m : Nat, ln % 3 = m := ⟨_, rfl⟩
  have hll3 : ll ≤ 2 := by omega
  have hm22 : m ≤ 22 := by omega
  have hev : m % 2 = 0 := by omega
  rw [hSe, hre, hll] at HM hok0
  rw [hSe, hm] at hSl
  rw [hSe] at hS
  rw [← hSl] at hev hm22
  obtain ⟨a0, c0, rfl, _⟩ := hv
  clear hSe hre hm hSl hll
  have HS := Lib.hid hS
  have HEv := Lib.hid hev
  have HOk := Lib.hid hok0
  clear hS hok0
  go_enter Try.func13, Try.ntmps13
  go_wp2_with fail
  refine HA.out.mono ?_
  rintro e w1 ⟨rfl, R1, he1⟩
  have HE1 := Lib.hid he1
  clear he1
  go_wp2_with fail
  refine (HM.out R1 w1 HE1.out.inv (HV.out.ev HE1.out)).mono ?_
  rintro e w2 ⟨p, a1, c1, R2, rfl, he2, hp2, hf2⟩
  unfold refV
  have hnone : R2 w2.heap.size = none := he2.inv.none_of_ge (Nat.le_refl _)
  have hI3 := he2.inv.alloc (.cells #[.slice a1 S.length c1, .int .i64 r, .int .i64 (ll : Int)] 27)
  have hf3 := hf2.ev ((Ev.refl he2.inv).alloc (.cells #[.slice a1 S.length c1, .int .i64 r, .int .i64 (ll : Int)] 27))
  have HE2 := Lib.hid (HE1.out.trans he2)
  have HP3 := Lib.hid hp2
  have HX := Lib.hid (fun R' w' (h : Ev R2 (w2.alloc (.cells #[.slice a1 S.length c1, .int .i64 r, .int .i64 (ll : Int)] 27)) R' w') => h.ref3 hnone)
  have HF3 := Lib.hid hf3
  have HI3 := Lib.hid hI3
  clear he2 hp2 hf2 hI3 hnone hf3
  go_upto_region 4 with fail
  obtain ⟨w3, hw3⟩ : ∃ w3, w3 = w2.alloc (.cells #[.slice a1 S.length c1, .int .i64 r, .int .i64 (ll : Int)] 27) := ⟨_, rfl⟩
  have HE3 : Hid (Ev noReg w R2 w3) := by rw [hw3]; exact HE2.out.alloc _
  rw [← hw3] at HX HF3 HI3 ⊢
  clear hw3 HE2
  have hSl22 : S.length ≤ 22 := hm22
  have hpl := phiL_length S
  have hil := invL_length S
  have HPl := Lib.hid hpl
  have HIl := Lib.hid hil
  have HPp := Lib.hid (phiL_perm HS.out HEv.out)
  have HIp := Lib.hid (invL_perm HS.out)
  have HPP := Lib.hid (phi_phi HEv.out)
  have HII := Lib.hid (inv_inv HS.out)
  have HG1 := Lib.hid (genusL_phi HS.out HEv.out)
  have HG2 := Lib.hid (genusL_inv HS.out HEv.out)
  clear hpl hil
  go_wp2_with fail
  refine (dual_any R2 w3 HI3.out p S r ll HP3.out).mono ?_
  rintro e w4 ⟨d, R4, rfl, he4, hd4⟩
  have HE4 := Lib.hid he4
  have HD4 := Lib.hid hd4
  clear he4 hd4
  go_wp2_with fail
  refine (mirror_any R4 w4 HE4.out.inv p S r ll (HE4.out.map HP3.out)).mono ?_
  rintro e w5 ⟨o, R5, rfl, he5, ho5⟩
  have HE5 := Lib.hid (HE4.out.trans he5)
  have HD5 := Lib.hid (he5.map HD4.out)
  have HO5 := Lib.hid ho5
  clear he5 ho5 HD4 HE4
  obtain ⟨x0, x1, x2⟩ := HX.out _ _ HE5.out
  go_wp2_with fail
  refine (r10dual_any R5 w5 HE5.out.inv _ S r ll (HF3.out.ev HE5.out) HS.out (by omega) HEv.out).mono ?_
  rintro e w6 ⟨a6, c6, rfl, he6, ho6⟩
  have HE6 := Lib.hid (HE5.out.trans he6)
  have HD6 := Lib.hid (he6.map HD5.out)
  have HO6 := Lib.hid (he6.map HO5.out)
  have HF6 := Lib.hid ho6.free
  clear he6 ho6 HD5 HO5 HE5 x0 x1 x2
  go_wp2_with fail
  refine (like_yes R5 w6 HE6.out.inv d _ (phiL S) r ll HD6.out HF6.out).mono ?_
  rintro e w7 ⟨rfl, he7⟩
  have HE7 := Lib.hid (HE6.out.trans he7)
  have HD7 := Lib.hid (he7.map HD6.out)
  have HO7 := Lib.hid (he7.map HO6.out)
  clear he7 HD6 HO6 HE6 HF6
  obtain ⟨x0, x1, x2⟩ := HX.out _ _ HE7.out
  go_wp2_with fail
  refine (r10mirror_any R5 w7 HE7.out.inv _ S r ll (HF3.out.ev HE7.out) HS.out (by omega) HEv.out).mono ?_
  rintro e w8 ⟨a8, c8, rfl, he8, ho8⟩
  have HE8 := Lib.hid (HE7.out.trans he8)
  have HD8 := Lib.hid (he8.map HD7.out)
  have HO8 := Lib.hid (he8.map HO7.out)
  have HF8 := Lib.hid ho8.free
  clear he8 ho8 HD7 HO7 HE7 x0 x1 x2
  go_wp2_with fail
  refine (like_yes R5 w8 HE8.out.inv o _ (invL S) r ll HO8.out HF8.out).mono ?_
  rintro e w9 ⟨rfl, he9⟩
  have HE9 := Lib.hid (HE8.out.trans he9)
  have HD9 := Lib.hid (he9.map HD8.out)
  have HO9 := Lib.hid (he9.map HO8.out)
  clear he9 HD8 HO8 HE8 HF8
  go_wp2_with fail
  refine (dual_any R5 w9 HE9.out.inv d (phiL S) r ll HD9.out).mono ?_
  rintro e wA ⟨dd, RA, rfl, heA, hdd⟩
  have HEA := Lib.hid (HE9.out.trans heA)
  have HDA := Lib.hid (heA.map HD9.out)
  have HOA := Lib.hid (heA.map HO9.out)
  have hsm := msame_any RA wA heA.inv dd p (phiL (phiL S)) S r r ll ll hdd (HEA.out.map HP3.out)
  rw [HPP.out, show sameB S S r r ll ll = true by simp [sameB]] at hsm
  have HSm := Lib.hid hsm
  clear heA HD9 HO9 HE9 hdd hsm
  go_wp2_with fail
  refine (HSm.out).mono ?_
  rintro e wB ⟨rfl, heB⟩
  have HEB := Lib.hid (HEA.out.trans heB)
  have HDB := Lib.hid (heB.map HDA.out)
  have HOB := Lib.hid (heB.map HOA.out)
  clear heB HDA HOA HEA HSm
  go_wp2_with fail
  refine (mirror_any RA wB HEB.out.inv o (invL S) r ll HOB.out).mono ?_
  rintro e wC ⟨oo, RC, rfl, heC, hoo⟩
  have HEC := Lib.hid (HEB.out.trans heC)
  have HDC := Lib.hid (heC.map HDB.out)
  have HOC := Lib.hid (heC.map HOB.out)
  have hsm := msame_any RC wC heC.inv oo p (invL (invL S)) S r r ll ll hoo (HEC.out.map HP3.out)
  rw [HII.out, show sameB S S r r ll ll = true by simp [sameB]] at hsm
  have HSm := Lib.hid hsm
  clear heC HDB HOB HEB hoo hsm
  go_wp2_with fail
  refine (HSm.out).mono ?_
  rintro e wD ⟨rfl, heD⟩
  have HED := Lib.hid (HEC.out.trans heD)
  have HDD := Lib.hid (heD.map HDC.out)
  have HOD := Lib.hid (heD.map HOC.out)
  clear heD HDC HOC HEC HSm
  go_wp2_with fail
  refine (darts_any RC wD HED.out.inv p S r ll (HED.out.map HP3.out)).mono ?_
  rintro e w' ⟨rfl, rfl⟩
  go_wp2_with fail
  obtain ⟨m, hm⟩ : ∃ m, S.length = m := ⟨_, rfl⟩
  have HMl := Lib.hid hm
  rw [hm]
  have hm22' : m ≤ 22 := by omega
  clear hm
  go_loopg [56] m (fun g v56 wr => ∃ (k : Nat) (Rr : Reg), k ≤ m ∧ m - k ≤ g ∧ v56 = .int .i64 (k : Int) ∧ Ev RC wD Rr wr)
  case atStart => exact ⟨0, RC, Nat.zero_le _, by omega, rfl, Ev.refl HED.out.inv⟩
  case round =>
    obtain ⟨k, Rr, hkm, hg, rfl, hev⟩ := hrel
    have HE := Lib.hid hev
    clear hev
    by_cases hkl : k < m
    · have f1 := vertex_any Rr wr HE.out.inv d (phiL S) r ll (HE.out.map HDD.out) k
      obtain ⟨y1, hy1⟩ : ∃ y, nameI (phiL S) (k : Int) = y := ⟨_, rfl⟩
      obtain ⟨y2, hy2⟩ : ∃ y, nameI S (k : Int) = y := ⟨_, rfl⟩
      rw [hy1] at f1
      have HF1 := Lib.hid f1
      have HY1 := Lib.hid hy1
      have HY2 := Lib.hid hy2
      have b1 : (y1 != y1) = false := by simp
      have b2 : (y2 != y2) = false := by simp
      clear f1 hy1 hy2
      go_wp2_with fail
      refine HF1.out.mono ?_
      rintro e w1' ⟨rfl, Ra, he⟩
      have HEa := Lib.hid (HE.out.trans he)
      have f2 := face_any Ra w1' he.inv p S r ll ((HED.out.trans HEa.out).map HP3.out) k
      rw [HY1.out] at f2
      have HF2 := Lib.hid f2
      clear he f2 HF1
      go_wp2_with fail
      refine HF2.out.mono ?_
      rintro e w2' ⟨rfl, Rb, he⟩
      have HEb := Lib.hid (HEa.out.trans he)
      have f3 := face_any Rb w2' he.inv d (phiL S) r ll (HEb.out.map HDD.out) k
      rw [HPP.out, HY2.out] at f3
      have HF3' := Lib.hid f3
      clear he f3 HF2
      go_wp2_with fail
      refine HF3'.out.mono ?_
      rintro e w3' ⟨rfl, Rc, he⟩
      have HEc := Lib.hid (HEb.out.trans he)
      have f4 := vertex_any Rc w3' he.inv p S r ll ((HED.out.trans HEc.out).map HP3.out) k
      rw [HY2.out] at f4
      have HF4 := Lib.hid f4
      clear he f4 HF3'
      go_wp2_with fail
      refine HF4.out.mono ?_
      rintro e w4' ⟨rfl, Rd, he⟩
      have HEd := Lib.hid (HEc.out.trans he)
      clear he HF4
      go_wp2_with fail
      go_roundg (m - (k + 1))
      case measure => omega
      case rel => exact ⟨k + 1, Rd, by omega, by omega, by go_num, HEd.out⟩
    · obtain rfl : k = m := by omega
      have HEz := Lib.hid (HED.out.trans HE.out)
      have HDz := Lib.hid (HE.out.map HDD.out)
      have HOz := Lib.hid (HE.out.map HOD.out)
      obtain ⟨gg, hgg⟩ : ∃ g, genusL S = g := ⟨_, rfl⟩
      have HGG := Lib.hid hgg
      have b1 : (gg == gg) = true := by simp
      clear HDD HOD hgg
      go_wp2_with fail
      have hq := egenus_any Rr wr HEz.out.inv d (phiL S) r ll HDz.out
      rw [HG1.out, HGG.out] at hq
      have HQ := Lib.hid hq
      clear hq
      refine (HQ.out).mono ?_
      rintro e w1g ⟨rfl, R1g, he⟩
      have HE1g := Lib.hid (HEz.out.trans he)
      have HD1g := Lib.hid (he.map HDz.out)
      have HO1g := Lib.hid (he.map HOz.out)
      clear he HQ HDz HOz
      go_wp2_with fail
      have hq := egenus_any R1g w1g HE1g.out.inv p S r ll (HE1g.out.map HP3.out)
      rw [HGG.out] at hq
      have HQ := Lib.hid hq
      clear hq
      refine (HQ.out).mono ?_
      rintro e w2g ⟨rfl, R2g, he⟩
      have HE2g := Lib.hid (HE1g.out.trans he)
      have HD2g := Lib.hid (he.map HD1g.out)
      have HO2g := Lib.hid (he.map HO1g.out)
      clear he HQ HD1g HO1g
      go_wp2_with fail
      have hq := egenus_any R2g w2g HE2g.out.inv o (invL S) r ll HO2g.out
      rw [HG2.out, HGG.out] at hq
      have HQ := Lib.hid hq
      clear hq
      refine (HQ.out).mono ?_
      rintro e w3g ⟨rfl, R3g, he⟩
      have HE3g := Lib.hid (HE2g.out.trans he)
      have HD3g := Lib.hid (he.map HD2g.out)
      have HO3g := Lib.hid (he.map HO2g.out)
      clear he HQ HD2g HO2g
      go_wp2_with fail
      have hq := egenus_any R3g w3g HE3g.out.inv p S r ll (HE3g.out.map HP3.out)
      rw [HGG.out] at hq
      have HQ := Lib.hid hq
      clear hq
      refine (HQ.out).mono ?_
      rintro e w4g ⟨rfl, R4g, he⟩
      have HE4g := Lib.hid (HE3g.out.trans he)
      have HD4g := Lib.hid (he.map HD3g.out)
      have HO4g := Lib.hid (he.map HO3g.out)
      clear he HQ HD3g HO3g
      go_wp2_with fail
      have hq := vertices_any R4g w4g HE4g.out.inv d (phiL S) r ll HD4g.out
      obtain ⟨vv, hvv⟩ : ∃ v, (sizesL (phiL S)).length = v := ⟨_, rfl⟩
      have hvb : vv ≤ 22 := by
        rw [← hvv]
        have := sizesL_le HPp.out
        have h2 := HPl.out
        have h3 := HMl.out
        omega
      rw [hvv] at hq
      have HVv := Lib.hid hvv
      have HQ := Lib.hid hq
      have hwr : IntKind.i64.wrap ((vv : Int) + (ll : Int) - (ll : Int)) = (vv : Int) := by rw [show (vv : Int) + (ll : Int) - (ll : Int) = (vv : Int) by omega]; exact IntWalk.i64_in _ (by omega)
      have b2 : ((vv : Int) == (vv : Int)) = true := by simp
      clear hq hvv
      refine HQ.out.mono ?_
      rintro e w5g ⟨rfl, R5g, he⟩
      have HE5g := Lib.hid (HE4g.out.trans he)
      have HL := Lib.hid (lone_any R5g w5g he.inv d _ _ _ (he.map HD4g.out))
      clear he
      go_wp2_with fail
      refine HL.out.mono ?_
      rintro e w' ⟨rfl, rfl⟩
      go_wp2_with fail
      have hq := borders_any R5g w5g HE5g.out.inv p S r ll (HE5g.out.map HP3.out)
      rw [HVv.out] at hq
      refine hq.mono ?_
      rintro e w6g ⟨rfl, R6g, he⟩
      have HE6g := Lib.hid (HE5g.out.trans he)
      clear he hq
      go_wp2_with fail
      go_ret
      exact ⟨rfl, R6g, HE3.out.trans HE6g.out⟩

end Go.Proofs.Ytnbecpeiodcohaa
