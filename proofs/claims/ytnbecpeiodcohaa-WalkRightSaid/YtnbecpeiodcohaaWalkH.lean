/- walk.Right. Conditions: what is read lies in memory, the map is registered. -/
import Derived.Test.YtnbecpeiodcohaaWalkF
import Derived.Test.YtnbecpeiodcohaaWalkB
namespace Go.Proofs.Ytnbecpeiodcohaa
open Go.RowKit
set_option linter.unusedVariables false

set_option maxRecDepth 100000 in
set_option maxHeartbeats 2000000 in
theorem right_walk (R : Reg) (w : World) (hI : Inv R w) (p : Value) (s : List Nat) (rt : Int) (lone : Nat) (hp : MapAt R p s rt lone) (root : Nat) (hr : root < s.length) (a : Option Addr) (n c : Nat) (ys : List (Int × Int)) (hv : FreeS R w (.slice a n c) ys) (hn : n ≤ 1000000) :
    Calls Try.prog 22 #[p, .int .i64 (root : Int), .slice a n c] w (RetV R w (.bool (decide (ys = stepL s ((sizesL s).length + lone) root (partC' s root))))) := by
  have hb : partC' s root ≤ 131073 := by
    obtain ⟨_, hok⟩ := hp.ok hI
    have := tally_le (Con s root) s.length
    have h2 : s.length ≤ 131073 := hok.2.1
    unfold partC'; omega
  have hw := walk_of R w hI p s rt lone hp root hr
  obtain ⟨L, hL⟩ : ∃ L, stepL s ((sizesL s).length + lone) root (partC' s root) = L := ⟨_, rfl⟩
  have hl : L.length ≤ 131073 := by rw [← hL, stepL_length]; exact hb
  rw [hL] at hw ⊢
  have HW := Lib.hid hw
  have HV := Lib.hid hv
  obtain ⟨bp, rfl, _⟩ := hp
  clear hw hv hI hL hb
  go_enter Try.func22, Try.ntmps22
  go_wp2_with fail
  refine HW.out.mono ?_
  rintro e w1 ⟨R1, a1, c1, rfl, he, ho⟩
  have HS := Lib.hid (sequal_any R1 w1 he.inv a a1 n L.length c c1 ys L (HV.out.ev he) (FreeS.of_own ho) hn (by omega))
  have HE := Lib.hid he
  clear he ho
  obtain ⟨q, hq⟩ : ∃ q, decide (ys = L) = q := ⟨_, rfl⟩
  rw [hq] at HS
  have HQ := Lib.hid hq
  clear hq
  go_wp2_with fail
  refine HS.out.mono ?_
  rintro e w2 ⟨rfl, he2⟩
  have HE2 := Lib.hid (HE.out.trans he2)
  clear he2
  go_wp2_with fail
  go_ret
  exact ⟨by rw [HQ.out]; rfl, R1, HE2.out⟩

set_option maxRecDepth 100000 in
set_option maxHeartbeats 2000000 in
theorem right_out (R : Reg) (w : World) (hI : Inv R w) (p : Value) (s : List Nat) (rt : Int) (lone : Int) (hp : MapAt R p s rt lone) (root : Int) (hr : root < 0 ∨ (s.length : Int) ≤ root) (v : Value) :
    Calls Try.prog 22 #[p, .int .i64 root, v] w fun e w' => e = .returned (.bool false) ∧ w' = w := by
  have HW := Lib.hid (of_out R w hI p s rt lone hp root hr)
  obtain ⟨bp, rfl, _⟩ := hp
  clear hI
  go_enter Try.func22, Try.ntmps22
  go_wp2_with fail
  refine HW.out.mono ?_
  rintro e w1 ⟨rfl, rfl⟩
  go_wp2_with fail
  go_ret
  exact ⟨rfl, rfl⟩

set_option maxRecDepth 100000 in
set_option maxHeartbeats 2000000 in
theorem right_nil (w : World) (root : Int) (v : Value) :
    Calls Try.prog 22 #[.pointer none, .int .i64 root, v] w fun e w' => e = .returned (.bool false) ∧ w' = w := by
  have HW := Lib.hid (of_nil w root)
  go_enter Try.func22, Try.ntmps22
  go_wp2_with fail
  refine HW.out.mono ?_
  rintro e w1 ⟨rfl, rfl⟩
  go_wp2_with fail
  go_ret
  exact ⟨rfl, rfl⟩

/-- the walk stays in its part -/
theorem wd_part {s : List Nat} (hs : IsPerm s) (he : s.length % 2 = 0) {V root : Nat} (hr : root < s.length) (hV : (sizesL s).length ≤ V) {j : Nat} (hj : j < partC' s root) : nth (partsL s) (wd s V root j) = nth (partsL s) root := by
  obtain ⟨hp, h0, hmin⟩ := wlen hs he hr hV
  have hc := (wall hs he hr hV h0 hp hmin (wd s V root j)).2 ⟨j, hj, rfl⟩
  have hd := (winv hs he hr hV j).lt j (Nat.le_refl _)
  exact (((partsL_ord hs he).rel _ _ hd hr).2 ((Con.per hs).symm hc))

theorem partC_le (s : List Nat) (root : Nat) : partC' s root ≤ s.length := by unfold partC'; exact tally_le _ _

end Go.Proofs.Ytnbecpeiodcohaa
