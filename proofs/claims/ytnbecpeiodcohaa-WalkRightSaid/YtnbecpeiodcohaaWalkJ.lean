/- walk at nil, slices.Clone and append at []walk.Step. Conditions: what is read lies in memory. -/
import Derived.Test.YtnbecpeiodcohaaWalkG
import Derived.Test.YtnbecpeiodcohaaWalkE
import Derived.Lib.SliceRun
namespace Go.Proofs.Ytnbecpeiodcohaa
open Go.RowKit
set_option linter.unusedVariables false

set_option maxRecDepth 100000 in
set_option maxHeartbeats 1000000 in
theorem vertex_nil (w : World) (d : Int) : Calls Try.prog 28 #[.pointer none, .int .i64 d] w fun e w' => e = .returned (.int .i64 (-1)) ∧ w' = w := by
  go_enter Try.func28, Try.ntmps28
  go_wp2_with fail
  go_ret
  exact ⟨rfl, rfl⟩

set_option maxRecDepth 100000 in
set_option maxHeartbeats 1000000 in
theorem mate_nil (w : World) : Calls Try.prog 30 #[.pointer none, .int .i64 0] w fun e w' => e = .returned (.int .i64 (-1)) ∧ w' = w := by
  go_enter Try.func30, Try.ntmps30
  go_wp2
  go_ret
  exact ⟨rfl, rfl⟩

theorem zero_int (w : World) : (zeroValue 3).run Try.prog w = .ok (.int .i64 0) w := by kernel_rfl

/-- both are below nought: nothing is left -/
def RetCut (R0 : Reg) (w0 : World) (R : Reg) (e : Ending) (w' : World) : Prop := ∃ a c, e = .returned (.slice a 0 c) ∧ Ev R0 w0 R w'

set_option maxRecDepth 100000 in
set_option maxHeartbeats 2000000 in
theorem delete_two (R0 : Reg) (w0 : World) (R : Reg) (w : World) (he : Ev R0 w0 R w) (v : Value) (ho : OwnI R w0.heap.size 3 w v [-1, -1]) :
    Calls Try.prog 86 #[v, .func (.func 87) #[] #[]] w (RetCut R0 w0 R) := by
  obtain ⟨a, c, rfl, hv⟩ := ho.ints.open
  have h := indexf_ord w a 2 c _ hv (by omega)
  obtain ⟨g, rfl, hB, hR, c0, z0⟩ := ho.headAt rfl (i := 0) (by simp)
  obtain ⟨_, e1, _, _, c1, z1⟩ := ho.headAt rfl (i := 1) (by simp)
  cases e1
  have k0 : w.cell? ⟨g, 0, none⟩ = some (.int .i64 (-1)) := c0
  have k1 : w.cell? ⟨g, 1, none⟩ = some (.int .i64 (-1)) := c1
  have hcap : 2 ≤ c := by
    obtain ⟨_, _, e, h, _⟩ := ho.ints
    injection e with _ _ e
    subst e
    simpa using h
  have hcl : ∀ ty, (Builtin.clear_ #[25] ty #[.slice (some ⟨g, 0, none⟩) 2 c]).run Try.prog w = .ok (.tuple #[]) (w.setCells g 0 (List.replicate 2 (.int .i64 0))) := fun ty =>
    Lib.run_clear_slice w _ _ ty _ Try.underlying25 zero_int rfl rfl g 0 2 c (by omega) (fun j hj => by
      match j, hj with
      | 0, _ => rw [k0]; rfl
      | 1, _ => rw [k1]; rfl) (fun j hj => by
      match j, hj with
      | 0, _ => exact z0
      | 1, _ => exact z1)
  have HE := Lib.hid ((he.setCell (p := ⟨g, 0, none⟩) hB hR (.int .i64 0)).setCell (p := ⟨g, 1, none⟩) hB hR (.int .i64 0))
  have hofw := ordf_any
  clear he ho hv c0 c1
  go_enter Try.func86, Try.ntmps86
  go_wp2_with fail
  refine h.mono ?_
  rintro e w' ⟨rfl, r, rfl, ⟨rfl, h⟩ | ⟨i, rfl, hi, hb, hall⟩⟩
  · have := h 0 (by omega)
    cases this
  · obtain rfl : i = 0 := by
      rcases Nat.eq_zero_or_pos i with e | e
      · exact e
      · have := hall 0 e
        cases this
    clear hall hb
    go_wp2_with fail
    go_loopg [5, 6] 1 (fun gg v5 v6 wr => (gg = 1 ∧ v5 = .int .i64 0 ∧ v6 = .int .i64 1 ∧ wr = w') ∨ (gg = 0 ∧ v5 = .int .i64 0 ∧ v6 = .int .i64 2 ∧ wr = w'))
    case atStart => exact Or.inl ⟨rfl, rfl, rfl, rfl⟩
    case round =>
      rcases hrel with ⟨rfl, rfl, rfl, rfl⟩ | ⟨rfl, rfl, rfl, rfl⟩
      · have hneg : negK (-1) = true := rfl
        go_wp2_with fail
        refine (ordf_any _ _).mono ?_
        rintro e w2 ⟨rfl, rfl⟩
        rw [hneg]
        go_wp2_with fail
        go_roundg 0
        case measure => omega
        case rel => exact Or.inr ⟨rfl, rfl, rfl, rfl⟩
      · go_wp2_with fail
        go_ret
        exact ⟨_, _, rfl, HE.out⟩

theorem neg_one {R : Reg} {w : World} (hI : Inv R w) (B : Nat) (hB : B ≤ w.heap.size) : OwnI R B 3 (w.alloc (.cells #[.int .i64 (-1)] 3)) nilS [] := OwnI.nil _ _ _ _

set_option maxRecDepth 100000 in
set_option maxHeartbeats 2000000 in
theorem order_nil (R : Reg) (w : World) (hI : Inv R w) (a : Option Addr) (c : Nat) (hv : FreeS R w (.slice a 1 c) [(0, 0)]) :
    Calls Try.prog 27 #[.pointer none, .slice a 1 c] w (RetCut R w R) := by
  obtain ⟨g, off, rfl, hg, c0, c1⟩ := hv.at (i := 0) (by omega)
  have k0 : w.cell? ⟨g, off, none⟩ = some (.int .i64 0) := by simpa [nthS] using c0
  have HI := Lib.hid hI
  have HV := Lib.hid hv
  have HE1 := Lib.hid ((Ev.refl hI).alloc (.cells #[.int .i64 (-1)] 3))
  have HO1 := Lib.hid (OwnI.nil R w.heap.size 3 (w.alloc (.cells #[.int .i64 (-1)] 3)))
  clear hI hv c0 c1
  go_enter Try.func27, Try.ntmps27
  go_wp2_with fail
  refine (vertex_nil _ _).mono ?_
  rintro e w' ⟨rfl, rfl⟩
  go_wp2_with (at_builtin; refine wpList_app_int (R := R) (B := w'.heap.size) rfl _ _ rfl HO1.out rfl ⟨w'.heap.size, 0, none⟩ 1 (-1) rfl ?h0a ?h0b ?h0c ?h0d ?_)
  case h0a => simp
  case h0b => simp
  case h0c => simp
  case h0d => exact fun q hq => HE1.out.inv.none_of_ge (by simp at hq ⊢; omega)
  intro v2 w2 ho2 hg2 hs2
  obtain ⟨a2, c2, rfl, _⟩ := ho2.ints.open
  have HE2 := Lib.hid (HE1.out.app HO1.out (Nat.le_refl _) hg2)
  have HO2 : Hid (OwnI R w'.heap.size 3 w2 (.slice a2 1 c2) [-1]) := Lib.hid ho2
  have e1 : [(-1 : Int)].length = 1 := rfl
  try rw [e1]
  have HT := Lib.hid (tree_any R w2 HE2.out.inv (some ⟨g, off, none⟩) 1 c [(0, 0)] (HV.out.ev HE2.out) (by omega))
  have e2 : treeL [((0 : Int), (0 : Int))] = [0] := rfl
  rw [e2] at HT
  clear ho2 hg2 hs2 k0 e1 e2
  go_wp2_with fail
  refine HT.out.mono ?_
  rintro e w3 ⟨v3, rfl, he3, ho3⟩
  obtain ⟨a3, c3, rfl, _⟩ := ho3.ints.open
  obtain ⟨g3, rfl, hg3, _, d0, _⟩ := ho3.headAt rfl (i := 0) (by simp)
  have d0' : w3.cell? ⟨g3, 0, none⟩ = some (.int .i64 0) := d0
  have HE3 := Lib.hid (HE2.out.trans he3)
  have HO3 := Lib.hid (HO2.out.ev he3)
  have e3 : [(0 : Int)].length = 1 := rfl
  try rw [e3]
  clear he3 ho3 d0 e3
  go_wp2_with fail
  go_loopg [5, 23] 1 (fun gg v5 v23 wr => (gg = 1 ∧ v5 = .slice a2 1 c2 ∧ v23 = .int .i64 0 ∧ wr = w3) ∨ (gg = 0 ∧ v23 = .int .i64 1 ∧ ∃ a c, v5 = .slice a 2 c ∧ Ev R w' R wr ∧ OwnI R w'.heap.size 3 wr (.slice a 2 c) [-1, -1]))
  case atStart => exact Or.inl ⟨rfl, rfl, rfl, rfl⟩
  case round =>
    rcases hrel with ⟨rfl, rfl, rfl, rfl⟩ | ⟨rfl, rfl, a4, c4, rfl, he, ho⟩
    · have HE4 := Lib.hid (HE3.out.alloc (.cells #[.int .i64 (-1)] 3))
      have HO4 := Lib.hid (HO3.out.alloc (.cells #[.int .i64 (-1)] 3))
      have hz := HE3.out.size
      go_wp2_with fail
      refine (mate_nil _).mono ?_
      rintro e w5 ⟨rfl, rfl⟩
      go_wp2_with fail
      refine (vertex_nil _ _).mono ?_
      rintro e w6 ⟨rfl, rfl⟩
      go_wp2_with (at_builtin; refine wpList_app_int (R := R) (B := w'.heap.size) rfl _ _ rfl HO4.out rfl ⟨w6.heap.size, 0, none⟩ 1 (-1) rfl ?h1a ?h1b ?h1c ?h1d ?_)
      case h1a => simp
      case h1b => simp
      case h1c => simp; omega
      case h1d => exact fun q hq => HE4.out.inv.none_of_ge (by simp at hq ⊢; omega)
      intro v7 w7 ho7 hg7 hs7
      obtain ⟨a7, c7, rfl, _⟩ := ho7.ints.open
      have HE7 := Lib.hid (HE4.out.app HO4.out (Nat.le_refl _) hg7)
      have HO7 : Hid (OwnI R w'.heap.size 3 w7 (.slice a7 2 c7) [-1, -1]) := Lib.hid ho7
      have e4 : [(-1 : Int), -1].length = 2 := rfl
      try rw [e4]
      clear ho7 hg7 hs7 e4
      go_wp2_with fail
      go_roundg 0
      case measure => omega
      case rel => exact Or.inr ⟨rfl, rfl, _, _, rfl, HE7.out, HO7.out⟩
    · have HDl := Lib.hid (delete_two R w' R wr he _ ho)
      clear he ho
      go_wp2_with fail
      refine HDl.out.mono ?_
      rintro e w8 ⟨a8, c8, rfl, he8⟩
      have HE8 := Lib.hid he8
      clear he8
      go_wp2_with fail
      go_ret
      exact ⟨_, _, rfl, HE8.out⟩

theorem FreeS.src {R : Reg} {w : World} {b off n cap : Nat} {xs : List (Int × Int)} (h : FreeS R w (.slice (some ⟨b, off, none⟩) n cap) xs) (o : Obj) : ∀ j u, (stepsV xs)[j]? = some u → (w.alloc o).cell? ((⟨b, off, none⟩ : Addr).add j) = some u := by
  intro j u hj
  have hjl : j < (stepsV xs).length := (List.getElem?_eq_some_iff.1 hj).1
  rw [stepsV_length] at hjl
  have hl := h.length
  obtain ⟨b', off', e, _, c0, c1⟩ := h.at (i := j / 2) (by omega)
  cases e
  have hg := stepsV_get (l := xs) (i := j / 2) (by omega)
  rw [Addr.add_lit, World.cell?_alloc_lt _ _ _ (lt_of_cell c0)]
  by_cases he : j % 2 = 0
  · have e : j = j / 2 * 2 := by omega
    rw [e] at hj
    rw [hg.1] at hj
    rw [show off + j = off + j / 2 * 2 by omega, c0]
    exact hj
  · have e : j = j / 2 * 2 + 1 := by omega
    rw [e] at hj
    rw [hg.2] at hj
    rw [show off + j = off + j / 2 * 2 + 1 by omega, c1]
    exact hj

def RetRow (R : Reg) (w : World) (xs : List (Int × Int)) (e : Ending) (w' : World) : Prop := ∃ a c, e = .returned (.slice a xs.length c) ∧ Ev R w R w' ∧ OwnV R w.heap.size 41 2 w' (.slice a xs.length c) xs.length (stepsV xs)

set_option maxRecDepth 100000 in
set_option maxHeartbeats 1000000 in
theorem sclone_any (R : Reg) (w : World) (hI : Inv R w) (a : Option Addr) (n cap : Nat) (xs : List (Int × Int)) (hv : FreeS R w (.slice a n cap) xs) (hn0 : 0 < n) (hn : n ≤ 1000000) :
    Calls Try.prog 40 #[.slice a n cap] w (RetRow R w xs) := by
  have q31 : ∀ (w : World) (a : Option Addr) (n c n' c' : Nat), (binOp .eql 31 (.slice a n c) (.slice none n' c')).run Try.prog w = .ok (.bool a.isNone) w := fun w a n c n' c' => Lib.run_eql_slice_nil w _ _ a n c n' c' Try.underlying31
  obtain ⟨b, off, rfl, hb, _, _⟩ := hv.at (i := 0) hn0
  have hl := hv.length
  have hsrc := hv.src (.cells #[] 41)
  have HI := Lib.hid hI
  have HE := Lib.hid ((Ev.refl hI).alloc (.cells #[] 41))
  have hown : OwnV R w.heap.size 41 2 (w.alloc (.cells #[] 41)) (.slice (some ⟨w.heap.size, 0, none⟩) 0 0) 0 [] := ⟨World.ownsRow_made w #[] 0 (Nat.le_refl _) (Nat.zero_le _) rfl, fun k hk => by
    simp only [Value.ownBlock, Option.some.injEq] at hk
    exact hI.none_of_ge (by omega)⟩
  have HO := Lib.hid hown
  have HL := Lib.hid hl
  have HSr := Lib.hid hsrc
  clear hI hv hown hl hsrc
  go_enter Try.func40, Try.ntmps40
  go_wp2_with (at_builtin; refine wpList_app_row 31 41 2 16 _ Try.underlying31 step_info rfl (by omega) (by omega) (R := R) (B := w.heap.size) rfl _ _ rfl HO.out rfl ⟨b, off, none⟩ n cap (stepsV xs) ?g0 rfl ?g1 ?g2 ?g3 ?g4 ?g5 ?_)
  case g0 => rw [stepsV_length, HL.out]
  case g1 => exact HSr.out
  case g2 => exact stepsV_one xs
  case g3 => omega
  case g4 => simp
  case g5 => exact fun q hq => HE.out.inv.none_of_ge (by simp at hq ⊢; omega)
  intro v' w5 ho5 hg5 _
  obtain ⟨a5, c5, rfl, _⟩ := ho5.open
  have HE5 := Lib.hid (HE.out.appV HO.out (Nat.le_refl _) hg5)
  have HO5 := Lib.hid ho5
  clear ho5 hg5
  go_wp2_with fail
  go_ret
  have ho := HO5.out
  try simp only [Nat.zero_add, List.nil_append] at ho
  rw [HL.out] at ho
  exact ⟨a5, c5, by rw [← HL.out]; simp, HE5.out, ho⟩

end Go.Proofs.Ytnbecpeiodcohaa
