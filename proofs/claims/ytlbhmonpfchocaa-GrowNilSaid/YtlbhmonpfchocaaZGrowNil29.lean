/- parquetrylaw23: do, awake; GrowNil, the walk: it answers true. Conditions: none. -/
import Derived.Test.YtlbhmonpfchocaaZGrowNil28
import Derived.Test.YtlbhmonpfchocaaZGrowNil13
namespace Go.Proofs.Ytlbhmonpfchocaa
open Go.RowKit
set_option linter.unusedVariables false

theorem leaf_nil (w : World) (d : Int) : Calls Try.prog 49 #[.pointer none, .int .i64 d] w fun e w' => e = .returned (.tuple #[.pointer none, .int .i64 2]) ∧ ∀ R, Inv R w → Ev R w R w' := by
  have H := Lib.hid (fun w' v => gof_nil w' v)
  go_enter Try.func49, Try.ntmps49
  go_wp2_with fail
  refine (H.out _ _).mono ?_
  rintro e w' ⟨rfl, rfl⟩
  go_wp2_with fail
  go_ret2
  exact ⟨rfl, fun R h => (Ev.refl h).alloc _⟩
theorem split_nil (w : World) (d : Int) : Calls Try.prog 50 #[.pointer none, .int .i64 d] w fun e w' => e = .returned (.tuple #[.pointer none, .int .i64 2]) ∧ ∀ R, Inv R w → Ev R w R w' := by
  have H := Lib.hid (fun w' v => gof_nil w' v)
  go_enter Try.func50, Try.ntmps50
  go_wp2_with fail
  refine (H.out _ _).mono ?_
  rintro e w' ⟨rfl, rfl⟩
  go_wp2_with fail
  go_ret2
  exact ⟨rfl, fun R h => (Ev.refl h).alloc _⟩
theorem star_nil (w : World) (d : Int) : Calls Try.prog 51 #[.pointer none, .int .i64 d] w fun e w' => e = .returned (.tuple #[.pointer none, .int .i64 2]) ∧ ∀ R, Inv R w → Ev R w R w' := by
  have H := Lib.hid (fun w' v => gof_nil w' v)
  go_enter Try.func51, Try.ntmps51
  go_wp2_with fail
  refine (H.out _ _).mono ?_
  rintro e w' ⟨rfl, rfl⟩
  go_wp2_with fail
  go_ret2
  exact ⟨rfl, fun R h => (Ev.refl h).alloc _⟩
theorem flip_nil (w : World) (d : Int) : Calls Try.prog 52 #[.pointer none, .int .i64 d] w fun e w' => e = .returned (.tuple #[.pointer none, .int .i64 2]) ∧ ∀ R, Inv R w → Ev R w R w' := by
  have H := Lib.hid (fun w' v => gof_nil w' v)
  go_enter Try.func52, Try.ntmps52
  go_wp2_with fail
  refine (H.out _ _).mono ?_
  rintro e w' ⟨rfl, rfl⟩
  go_wp2_with fail
  go_ret2
  exact ⟨rfl, fun R h => (Ev.refl h).alloc _⟩
theorem chord_nil (w : World) (d d' : Int) : Calls Try.prog 15 #[.pointer none, .int .i64 d, .int .i64 d'] w fun e w' => e = .returned (.tuple #[.pointer none, .int .i64 2]) ∧ ∀ R, Inv R w → Ev R w R w' := by
  have H := Lib.hid (fun w' v => gof_nil w' v)
  go_enter Try.func15, Try.ntmps15
  go_wp2_with fail
  refine (H.out _ _).mono ?_
  rintro e w' ⟨rfl, rfl⟩
  go_wp2_with fail
  go_ret2
  exact ⟨rfl, fun R h => (Ev.refl h).alloc _⟩

def wayR (n way : Nat) (d e : Int) : Bool := match way with | 1 => inR n d && inR n e | _ => inR n d
noncomputable def wayB (s : List Nat) (way : Nat) (d e : Int) : Bool := match way with | 1 => decide (nameI (phiL s) (atI s d) = nameI (phiL s) (atI s e)) | 4 => flipB s d.toNat | _ => true
def wayL (s : List Nat) (way : Nat) (d e : Int) : List Nat := match way with | 0 => leafL s d.toNat | 1 => chordL s d.toNat e.toNat | 2 => splitL s d.toNat | 3 => starL s d.toNat | _ => flipL s d.toNat

theorem WayPost.two {R : Reg} {w w' : World} {a b : Bool} {L : List Nat} {root lone : Int} {e : Ending} (k : WayPost R w a b L root lone e w') : ∃ q c, e = .returned (.tuple #[q, .int .i64 c]) := by
  rcases k with ⟨_, h, _⟩ | ⟨_, _, h, _⟩ | ⟨_, _, h⟩
  · exact ⟨_, _, h⟩
  · exact ⟨_, _, h⟩
  · exact h.two

theorem do_nil (w : World) (way : Nat) (hw : way < 5) (d d' : Int) : Calls Try.prog 14 #[.pointer none, .int .i64 (way : Int), .int .i64 d, .int .i64 d'] w fun e w' => e = .returned (.tuple #[.pointer none, .int .i64 2]) ∧ ∀ R, Inv R w → Ev R w R w' := by
  have H0 := Lib.hid (fun w' => leaf_nil w' d)
  have H1 := Lib.hid (fun w' => chord_nil w' d d')
  have H2 := Lib.hid (fun w' => split_nil w' d)
  have H3 := Lib.hid (fun w' => star_nil w' d)
  have H4 := Lib.hid (fun w' => flip_nil w' d)
  have hc : way = 0 ∨ way = 1 ∨ way = 2 ∨ way = 3 ∨ way = 4 := by omega
  go_enter Try.func14, Try.ntmps14
  rcases hc with rfl | rfl | rfl | rfl | rfl
  · go_wp2_with fail
    refine (H0.out _).mono ?_
    rintro e w' ⟨rfl, he⟩
    go_wp2_with fail
    go_ret2
    exact ⟨rfl, he⟩
  · go_wp2_with fail
    refine (H1.out _).mono ?_
    rintro e w' ⟨rfl, he⟩
    go_wp2_with fail
    go_ret2
    exact ⟨rfl, he⟩
  · go_wp2_with fail
    refine (H2.out _).mono ?_
    rintro e w' ⟨rfl, he⟩
    go_wp2_with fail
    go_ret2
    exact ⟨rfl, he⟩
  · go_wp2_with fail
    refine (H3.out _).mono ?_
    rintro e w' ⟨rfl, he⟩
    go_wp2_with fail
    go_ret2
    exact ⟨rfl, he⟩
  · go_wp2_with fail
    refine (H4.out _).mono ?_
    rintro e w' ⟨rfl, he⟩
    go_wp2_with fail
    go_ret2
    exact ⟨rfl, he⟩

theorem do_any (R : Reg) (w : World) (hI : Inv R w) (p : Value) (s : List Nat) (root lone : Int) (hp : MapAt R p s root lone) (way : Nat) (hw : way < 5) (d d' : Int) :
    Calls Try.prog 14 #[p, .int .i64 (way : Int), .int .i64 d, .int .i64 d'] w (WayPost R w (wayR s.length way d d') (wayB s way d d') (wayL s way d d') root lone) := by
  have H0 := Lib.hid (leaf_any R w hI p s root lone hp d)
  have H1 := Lib.hid (chord_any R w hI p s root lone hp d d')
  have H2 := Lib.hid (split_any R w hI p s root lone hp d)
  have H3 := Lib.hid (star_any R w hI p s root lone hp d)
  have H4 := Lib.hid (flip_any R w hI p s root lone hp d)
  have hc : way = 0 ∨ way = 1 ∨ way = 2 ∨ way = 3 ∨ way = 4 := by omega
  clear hI hp
  go_enter Try.func14, Try.ntmps14
  rcases hc with rfl | rfl | rfl | rfl | rfl
  · go_wp2_with fail
    refine H0.out.mono ?_
    rintro e w' hpo
    obtain ⟨q, c, rfl⟩ := hpo.two
    have HPo := Lib.hid hpo
    clear hpo
    go_wp2_with fail
    go_ret2
    exact HPo.out
  · go_wp2_with fail
    refine H1.out.mono ?_
    rintro e w' hpo
    obtain ⟨q, c, rfl⟩ := hpo.two
    have HPo := Lib.hid hpo
    clear hpo
    go_wp2_with fail
    go_ret2
    exact HPo.out
  · go_wp2_with fail
    refine H2.out.mono ?_
    rintro e w' hpo
    obtain ⟨q, c, rfl⟩ := hpo.two
    have HPo := Lib.hid hpo
    clear hpo
    go_wp2_with fail
    go_ret2
    exact HPo.out
  · go_wp2_with fail
    refine H3.out.mono ?_
    rintro e w' hpo
    obtain ⟨q, c, rfl⟩ := hpo.two
    have HPo := Lib.hid hpo
    clear hpo
    go_wp2_with fail
    go_ret2
    exact HPo.out
  · go_wp2_with fail
    refine H4.out.mono ?_
    rintro e w' hpo
    obtain ⟨q, c, rfl⟩ := hpo.two
    have HPo := Lib.hid hpo
    clear hpo
    go_wp2_with fail
    go_ret2
    exact HPo.out

/-- grow.Seed -/
theorem ok01 : MapOk [0, 1] 0 0 := by unfold MapOk; simp
theorem seed_any (R : Reg) (w : World) (hI : Inv R w) : Calls Try.prog 13 #[] w fun e w' => ∃ p R', e = .returned p ∧ Ev R w R' w' ∧ MapAt R' p [0, 1] 0 0 := by
  have H1 := Lib.hid (new_yes R _ (hI.alloc _) _ [0, 1] (FreeI.two hI 0 1) 0 0 perm01 ok01)
  have HE := Lib.hid ((Ev.refl hI).alloc (.cells #[.int .i64 0, .int .i64 1] 3))
  clear hI
  go_enter Try.func13, Try.ntmps13
  go_wp2_with fail
  refine H1.out.mono ?_
  rintro e w2 ⟨p, R2, rfl, he2, hp⟩
  have HE2 := Lib.hid (HE.out.trans he2)
  have HP := Lib.hid hp
  clear he2 hp
  go_wp2_with fail
  go_ret
  exact ⟨p, R2, rfl, HE2.out, HP.out⟩

theorem newErr_one (xs : List Int) (r l : Int) : newErr xs r l ≠ 1 := by
  unfold newErr
  split
  · decide
  · split
    · decide
    · split <;> decide
theorem way_range {R : Reg} {w w' : World} {a b : Bool} {L : List Nat} {root lone : Int} {q : Value} {c : Int} (k : WayPost R w a b L root lone (.returned (.tuple #[q, .int .i64 c])) w') : (∃ R', Ev R w R' w') ∧ (c = 1 ↔ a = false) := by
  rcases k with ⟨h, e, R', h2⟩ | ⟨h, _, e, R', h2⟩ | ⟨h, _, k⟩
  · refine ⟨⟨R', h2⟩, ?_⟩
    injection e with e; injection e with e; simp at e
    exact ⟨fun _ => h, fun _ => e.2⟩
  · refine ⟨⟨R', h2⟩, ?_⟩
    injection e with e; injection e with e; simp at e
    rw [h]
    exact ⟨fun h => by omega, fun h => by cases h⟩
  · refine ⟨NewPost.ev k, ?_⟩
    rw [h]
    refine ⟨fun hc => ?_, fun h => by cases h⟩
    rcases k with ⟨_, e, _⟩ | ⟨_, S, p, R', _, _, _, e, _⟩
    · injection e with e; injection e with e; simp at e
      exact absurd (e.2.symm.trans hc) (newErr_one _ _ _)
    · injection e with e; injection e with e; simp at e
      omega

theorem leaf01 : leafL [0, 1] 0 = [2, 1, 0, 3] := by decide
theorem perm2103 : IsPerm [2, 1, 0, 3] := ⟨by decide, by decide⟩
theorem sizes01 : (sizesL [0, 1]).length = 2 := by decide +kernel
theorem sizes2103 : (sizesL [2, 1, 0, 3]).length = 3 := by decide +kernel

set_option maxRecDepth 100000 in
set_option maxHeartbeats 1000000 in
theorem awake23_any (R : Reg) (w : World) (hI : Inv R w) : Calls Try.prog 12 #[] w (RetTrue R w) := by
  have HSd := Lib.hid (seed_any R w hI)
  clear hI
  go_enter Try.func12, Try.ntmps12
  go_wp2_with fail
  refine HSd.out.mono ?_
  rintro e w1 ⟨p, R1, rfl, he1, hp1⟩
  have HE1 := Lib.hid he1
  have HL := Lib.hid (leaf_any R1 w1 he1.inv p [0, 1] 0 0 hp1 0)
  clear he1 hp1
  go_wp2_with fail
  refine HL.out.mono ?_
  rintro e w2 (⟨h, _⟩ | ⟨_, h, _⟩ | ⟨_, _, hk⟩)
  · exact absurd h (by decide)
  · cases h
  · have hk2 : NewPost R1 w1 (toI [2, 1, 0, 3]) 0 0 e w2 := by
      have e1 : leafL [0, 1] (0 : Int).toNat = [2, 1, 0, 3] := leaf01
      rw [← e1]; exact hk
    rcases hk2 with ⟨h, _⟩ | ⟨_, S, q, R2, _, hS, _, rfl, he2, hq⟩
    · exact absurd (newErr_ok perm2103 (by unfold MapOk; simp)) h
    · have := toI_inj hS
      subst this
      have HE2 := Lib.hid (HE1.out.trans he2)
      have HEd := Lib.hid (edges_any R2 w2 he2.inv q _ 0 0 hq)
      have hv := vertices_any R2 w2 he2.inv q _ 0 0 hq
      rw [sizes2103] at hv
      have HV := Lib.hid hv
      clear hk hS he2 hq hv HL HSd
      go_wp2_with fail
      refine HEd.out.mono ?_
      rintro e w' ⟨rfl, rfl⟩
      go_wp2_with fail
      refine HV.out.mono ?_
      rintro e w3 ⟨rfl, R3, he3⟩
      have HE3 := Lib.hid (HE2.out.trans he3)
      clear he3
      go_wp2_with fail
      go_ret
      exact ⟨by first | rfl | simp, R3, HE3.out⟩

set_option maxRecDepth 100000 in
set_option maxHeartbeats 2000000 in
theorem growNil_walk (w : World) (d : Int) : Calls Try.prog 3 #[.int .i64 d] w (RetTrue noReg w) := by
  have HA := Lib.hid (awake23_any noReg w (Inv.noReg w))
  have hnot := not_run
  obtain ⟨B, hB⟩ : ∃ B, inR 2 d = B := ⟨_, rfl⟩
  have hBf : B = false ↔ (d < 0 ∨ 1 < d) := by
    rw [← hB]; unfold inR
    constructor
    · intro h; have := of_decide_eq_false h; omega
    · intro h; exact decide_eq_false (by omega)
  have HB := Lib.hid hB
  have HBf := Lib.hid hBf
  clear hB hBf
  go_enter Try.func3, Try.ntmps3
  go_wp2_with fail
  refine HA.out.mono ?_
  rintro e w1 ⟨rfl, R1, he1⟩
  have HE1 := Lib.hid he1
  have HSd := Lib.hid (seed_any R1 w1 he1.inv)
  clear he1 HA
  go_wp2_with fail
  refine HSd.out.mono ?_
  rintro e w2 ⟨p, R2, rfl, he2, hp2⟩
  have HE2 := Lib.hid (HE1.out.trans he2)
  have HI2 := Lib.hid he2.inv
  have HP2 := Lib.hid hp2
  have HDo := Lib.hid (fun R' w' (h : Ev R2 w2 R' w') (i : Nat) (hi : i < 5) => (by
    refine (do_any R' w' h.inv p [0, 1] 0 0 (h.map hp2) i hi d 0).mono ?_
    rintro e w3 k
    obtain ⟨q, c, rfl⟩ := k.two
    obtain ⟨⟨R3, h3⟩, h4⟩ := way_range k
    refine ⟨q, c, R3, rfl, h3, h4.trans ?_⟩
    rw [← HBf.out, ← HB.out]
    have h01 : inR 2 0 = true := by decide
    unfold wayR
    split
    · show (inR 2 d && inR 2 0) = false ↔ _
      rw [h01, Bool.and_true]
    · exact Iff.rfl
    : Calls Try.prog 14 #[p, .int .i64 (i : Int), .int .i64 d, .int .i64 0] w' fun e w3 => ∃ q c R3, e = .returned (.tuple #[q, .int .i64 c]) ∧ Ev R' w' R3 w3 ∧ (c = 1 ↔ (d < 0 ∨ 1 < d))))
  have HCh := Lib.hid (fun R' w' (h : Ev R2 w2 R' w') => (by
    refine (chord_any R' w' h.inv p [0, 1] 0 0 (h.map hp2) 0 d).mono ?_
    rintro e w3 k
    obtain ⟨q, c, rfl⟩ := WayPost.two k
    obtain ⟨⟨R3, h3⟩, h4⟩ := way_range k
    refine ⟨q, c, R3, rfl, h3, h4.trans ?_⟩
    rw [← HBf.out, ← HB.out]
    have h01 : inR 2 0 = true := by decide
    show (inR 2 0 && inR 2 d) = false ↔ _
    rw [h01, Bool.true_and]
    : Calls Try.prog 15 #[p, .int .i64 0, .int .i64 d] w' fun e w3 => ∃ q c R3, e = .returned (.tuple #[q, .int .i64 c]) ∧ Ev R' w' R3 w3 ∧ (c = 1 ↔ (d < 0 ∨ 1 < d))))
  have HEg := Lib.hid (fun R' w' (h : Ev R2 w2 R' w') => edges_any R' w' h.inv p [0, 1] 0 0 (h.map hp2))
  have HVt := Lib.hid (fun R' w' (h : Ev R2 w2 R' w') => (by
    have h := vertices_any R' w' h.inv p [0, 1] 0 0 (h.map hp2)
    rw [sizes01] at h
    exact h : Calls Try.prog 17 #[p] w' (RetV R' w' (.int .i64 (((2 : Nat) : Int) + 0)))))
  have HRt := Lib.hid (fun R' w' (h : Ev R2 w2 R' w') => root_any R' w' h.inv p [0, 1] 0 0 (h.map hp2))
  clear he2 hp2 HSd
  go_wp2_with fail
  go_loopg [14] 5 (fun g v14 wr => ∃ (i : Nat) (R' : Reg), i ≤ 5 ∧ 5 - i ≤ g ∧ v14 = .int .i64 (i : Int) ∧ Ev R2 w2 R' wr)
  case atStart => exact ⟨0, R2, by omega, by omega, rfl, Ev.refl HI2.out⟩
  case round =>
    obtain ⟨i, R', hi, hg, rfl, hee⟩ := hrel
    have HEr := Lib.hid hee
    clear hee
    by_cases hi5 : i < 5
    · have hi' : (i : Int) < 5 := by omega
      have HN := Lib.hid (do_nil wr i hi5 0 0)
      go_wp2_with fail
      refine HN.out.mono ?_
      rintro e w3 ⟨rfl, h3⟩
      have HE3 := Lib.hid (HEr.out.trans (h3 _ HEr.out.inv))
      clear h3 HN
      go_wp2_with fail
      refine (HDo.out _ _ HE3.out i hi5).mono ?_
      rintro e w4 ⟨q, c, R4, rfl, he4, hc⟩
      have HE4 := Lib.hid (HE3.out.trans he4)
      have HC := Lib.hid hc
      clear he4 hc HE3 HEr
      by_cases hd0 : d < 0
      · have hc1 : c = 1 := HC.out.2 (Or.inl hd0)
        subst hc1
        go_wp2_with fail
        go_roundg (5 - (i + 1))
        case measure => omega
        case rel => exact ⟨i + 1, R4, by omega, by omega, by go_num, HE4.out⟩
      · by_cases hd1 : 1 < d
        · have hc1 : c = 1 := HC.out.2 (Or.inr hd1)
          subst hc1
          go_wp2_with fail
          go_roundg (5 - (i + 1))
          case measure => omega
          case rel => exact ⟨i + 1, R4, by omega, by omega, by go_num, HE4.out⟩
        · have hcb : (c == 1) = false := by
            simp
            intro h
            have := HC.out.1 h
            omega
          go_wp2_with fail
          go_roundg (5 - (i + 1))
          case measure => omega
          case rel => exact ⟨i + 1, R4, by omega, by omega, by go_num, HE4.out⟩
    · obtain rfl : i = 5 := by omega
      go_wp2_with fail
      refine (HCh.out _ _ HEr.out).mono ?_
      rintro e w4 ⟨q, c, R4, rfl, he4, hc⟩
      have HE4 := Lib.hid (HEr.out.trans he4)
      have HC := Lib.hid hc
      clear he4 hc HEr
      go_wp2_with fail
      refine (HEg.out _ _ HE4.out).mono ?_
      rintro e w' ⟨rfl, rfl⟩
      go_wp2_with fail
      refine (HVt.out _ _ HE4.out).mono ?_
      rintro e w5 ⟨rfl, R5, he5⟩
      have HE5 := Lib.hid (HE4.out.trans he5)
      clear he5 HE4
      go_wp2_with fail
      refine (HRt.out _ _ HE5.out).mono ?_
      rintro e w' ⟨rfl, rfl⟩
      by_cases hd0 : d < 0
      · have hc1 : c = 1 := HC.out.2 (Or.inl hd0)
        subst hc1
        go_wp2_with fail
        go_ret
        exact ⟨by first | rfl | (simp; done) | (simp; omega), R5, HE2.out.trans HE5.out⟩
      · by_cases hd1 : 1 < d
        · have hc1 : c = 1 := HC.out.2 (Or.inr hd1)
          subst hc1
          go_wp2_with fail
          go_ret
          exact ⟨by first | rfl | (simp; done) | (simp; omega), R5, HE2.out.trans HE5.out⟩
        · have hcb : (c == 1) = false := by
            simp
            intro h
            have := HC.out.1 h
            omega
          go_wp2_with fail
          go_ret
          exact ⟨by first | rfl | (simp; done) | (simp; omega), R5, HE2.out.trans HE5.out⟩
end Go.Proofs.Ytlbhmonpfchocaa
