/- package dart: the methods that ask a map. Conditions: the map is registered. -/
import Derived.Test.YtnbecpeiodcohaaDartB
import Derived.Deep.RegionWith
namespace Go.Proofs.Ytnbecpeiodcohaa
open Go.RowKit
set_option linter.unusedVariables false

/-- the cells of a map -/
theorem Inv.mapCells {R : Reg} {w : World} (hI : Inv R w) {b : Nat} {s : List Nat} {root lone : Int} (h : R b = some (.inr (.inr (s, root, lone)))) :
    IsPerm s ∧ MapOk s root lone ∧ IsPerm (phiL s) ∧ (phiL s).length = s.length ∧ b < w.heap.size ∧ ∃ bp bq, PermAt R (.pointer (some ⟨bp, 0, none⟩)) s ∧ PermAt R (.pointer (some ⟨bq, 0, none⟩)) (phiL s) ∧
      w.cell? ⟨b, 0, none⟩ = some (.pointer (some ⟨bp, 0, none⟩)) ∧ w.cell? ⟨b, 6, none⟩ = some (.pointer (some ⟨bq, 0, none⟩)) ∧ w.cell? ⟨b, 12, none⟩ = some (.int .i64 root) ∧ w.cell? ⟨b, 13, none⟩ = some (.int .i64 lone) := by
  obtain ⟨h1, h2, h2', bp, bq, T, d, e, v1, v2, u1, u2, ho, h3, h4, h5, h6⟩ := hI _ _ h
  obtain ⟨h7, h8, _⟩ := hI _ _ h4
  refine ⟨h1, h2', h7, by simp [phiL], lt_of_block ho, bp, bq, ⟨bp, rfl, h3⟩, ⟨bq, rfl, h4⟩, ?_, ?_, ?_, ?_⟩
  all_goals simp [World.cell?, ho]

theorem MapAt.ok {R : Reg} {w : World} (hI : Inv R w) {p : Value} {s : List Nat} {root lone : Int} (h : MapAt R p s root lone) : IsPerm s ∧ MapOk s root lone := by
  obtain ⟨b, rfl, hb⟩ := h
  obtain ⟨h1, h2, _⟩ := hI.mapCells hb
  exact ⟨h1, h2⟩

theorem sizesL_le {s : List Nat} (hs : IsPerm s) : (sizesL s).length ≤ s.length := by
  rw [← sizesGo_all, sizesGo_length hs _ (Nat.le_refl _)]
  exact namesGo_count s _

section
variable (R : Reg) (w : World) (hI : Inv R w) (p : Value) (s : List Nat) (root lone : Int) (hp : MapAt R p s root lone)
include hI hp

theorem darts_any : Calls Try.prog 17 #[p] w fun e w' => e = .returned (.int .i64 (s.length : Int)) ∧ w = w' := by
  obtain ⟨b, rfl, hb⟩ := hp
  obtain ⟨_, _, _, _, _, bp, bq, h1, h2, c0, c6, _, _⟩ := hI.mapCells hb
  have HI := Lib.hid hI
  have H1 := Lib.hid h1
  clear hI hb h1 h2
  go_enter Try.func17, Try.ntmps17
  go_wp2_with (go_at_call 76; refine (len_any R _ HI.out _ s H1.out).mono ?_; rintro e w' ⟨rfl, rfl⟩)
  go_ret
  exact ⟨rfl, rfl⟩

theorem edges_any : Calls Try.prog 43 #[p] w fun e w' => e = .returned (.int .i64 ((s.length / 2 : Nat) : Int)) ∧ w = w' := by
  have HD := Lib.hid (darts_any R w hI p s root lone hp)
  obtain ⟨b, rfl, hb⟩ := hp
  obtain ⟨_, hm, _⟩ := hI.mapCells hb
  have hn := hm.2.1
  clear hI hb hm
  go_enter Try.func43, Try.ntmps43
  go_wp2_with (go_at_call 17; refine HD.out.mono ?_; rintro e w' ⟨rfl, rfl⟩)
  go_ret
  exact ⟨ret_int (by omega), rfl⟩

theorem root_any : Calls Try.prog 70 #[p] w fun e w' => e = .returned (.int .i64 root) ∧ w = w' := by
  obtain ⟨b, rfl, hb⟩ := hp
  obtain ⟨_, _, _, _, _, bp, bq, h1, h2, c0, c6, c12, c13⟩ := hI.mapCells hb
  clear hI hb h1 h2
  go_enter Try.func70, Try.ntmps70
  go_wp2
  go_ret
  exact ⟨rfl, rfl⟩

theorem lone_any : Calls Try.prog 62 #[p] w fun e w' => e = .returned (.int .i64 lone) ∧ w = w' := by
  obtain ⟨b, rfl, hb⟩ := hp
  obtain ⟨_, _, _, _, _, bp, bq, h1, h2, c0, c6, c12, c13⟩ := hI.mapCells hb
  clear hI hb h1 h2
  go_enter Try.func62, Try.ntmps62
  go_wp2
  go_ret
  exact ⟨rfl, rfl⟩

theorem mlist_any : Calls Try.prog 50 #[p] w (RetOwn R w (toI s)) := by
  obtain ⟨b, rfl, hb⟩ := hp
  obtain ⟨_, _, _, _, _, bp, bq, h1, h2, c0, c6, c12, c13⟩ := hI.mapCells hb
  have HL := Lib.hid (list_any R w hI _ s h1)
  clear hI hb h1 h2
  go_enter Try.func50, Try.ntmps50
  go_wp2_with fail
  refine HL.out.mono ?_
  rintro e w' ⟨v, rfl, h⟩
  have H := Lib.hid h
  clear h
  go_wp2_with fail
  go_ret
  exact ⟨v, rfl, H.out⟩

theorem sigma_any (i : Int) : Calls Try.prog 72 #[p, .int .i64 i] w fun e w' => e = .returned (.int .i64 (atI s i)) ∧ w = w' := by
  obtain ⟨b, rfl, hb⟩ := hp
  obtain ⟨_, _, _, _, _, bp, bq, h1, h2, c0, c6, c12, c13⟩ := hI.mapCells hb
  have HL := Lib.hid (at_any R w hI _ s h1 i)
  clear hI hb h1 h2
  go_enter Try.func72, Try.ntmps72
  go_wp2_with (go_at_call 71; refine HL.out.mono ?_; rintro e w' ⟨rfl, rfl⟩)
  go_ret
  exact ⟨rfl, rfl⟩

theorem phi_any (i : Int) : Calls Try.prog 73 #[p, .int .i64 i] w fun e w' => e = .returned (.int .i64 (atI (phiL s) i)) ∧ w = w' := by
  obtain ⟨b, rfl, hb⟩ := hp
  obtain ⟨_, _, _, _, _, bp, bq, h1, h2, c0, c6, c12, c13⟩ := hI.mapCells hb
  have HL := Lib.hid (at_any R w hI _ (phiL s) h2 i)
  clear hI hb h1 h2
  go_enter Try.func73, Try.ntmps73
  go_wp2_with (go_at_call 71; refine HL.out.mono ?_; rintro e w' ⟨rfl, rfl⟩)
  go_ret
  exact ⟨rfl, rfl⟩

theorem mback_any (i : Int) : Calls Try.prog 102 #[p, .int .i64 i] w (RetV R w (.int .i64 (backI s i))) := by
  obtain ⟨b, rfl, hb⟩ := hp
  obtain ⟨_, _, _, _, _, bp, bq, h1, h2, c0, c6, c12, c13⟩ := hI.mapCells hb
  have HL := Lib.hid (back_any R w hI _ s h1 i)
  clear hI hb h1 h2
  go_enter Try.func102, Try.ntmps102
  go_wp2_with fail
  refine HL.out.mono ?_
  rintro e w' ⟨rfl, h⟩
  have H := Lib.hid h
  clear h
  go_wp2_with fail
  go_ret
  exact ⟨rfl, H.out⟩

theorem around_any (i : Int) : Calls Try.prog 119 #[p, .int .i64 i] w (RetOwn R w (orbI s i)) := by
  obtain ⟨b, rfl, hb⟩ := hp
  obtain ⟨_, _, _, _, _, bp, bq, h1, h2, c0, c6, c12, c13⟩ := hI.mapCells hb
  have HL := Lib.hid (orbit_any R w hI _ s h1 i)
  clear hI hb h1 h2
  go_enter Try.func119, Try.ntmps119
  go_wp2_with fail
  refine HL.out.mono ?_
  rintro e w' ⟨v, rfl, h⟩
  have H := Lib.hid h
  clear h
  go_wp2_with fail
  go_ret
  exact ⟨v, rfl, H.out⟩

theorem vertex_any (i : Int) : Calls Try.prog 28 #[p, .int .i64 i] w (RetV R w (.int .i64 (nameI s i))) := by
  obtain ⟨b, rfl, hb⟩ := hp
  have HL := Lib.hid (name_any R w hI b s root lone hb 0 s (Or.inl ⟨rfl, rfl⟩) i)
  clear hI hb
  go_enter Try.func28, Try.ntmps28
  go_wp2_with fail
  refine HL.out.mono ?_
  rintro e w' ⟨rfl, h⟩
  have H := Lib.hid h
  clear h
  go_wp2_with fail
  go_ret
  exact ⟨rfl, H.out⟩

theorem face_any (i : Int) : Calls Try.prog 66 #[p, .int .i64 i] w (RetV R w (.int .i64 (nameI (phiL s) i))) := by
  obtain ⟨b, rfl, hb⟩ := hp
  have HL := Lib.hid (name_any R w hI b s root lone hb 6 (phiL s) (Or.inr ⟨rfl, rfl⟩) i)
  clear hI hb
  go_enter Try.func66, Try.ntmps66
  go_wp2_with fail
  refine HL.out.mono ?_
  rintro e w' ⟨rfl, h⟩
  have H := Lib.hid h
  clear h
  go_wp2_with fail
  go_ret
  exact ⟨rfl, H.out⟩

theorem borders_any : Calls Try.prog 67 #[p] w (RetV R w (.int .i64 ((sizesL (phiL s)).length : Int))) := by
  obtain ⟨b, rfl, hb⟩ := hp
  have HL := Lib.hid (count_any R w hI b s root lone hb 6 (phiL s) (Or.inr ⟨rfl, rfl⟩))
  clear hI hb
  go_enter Try.func67, Try.ntmps67
  go_wp2_with fail
  refine HL.out.mono ?_
  rintro e w' ⟨rfl, R', _, _, _, _, h, _⟩
  have H := Lib.hid h
  clear h
  go_wp2_with fail
  go_ret
  exact ⟨rfl, R', H.out⟩
end

end Go.Proofs.Ytnbecpeiodcohaa
