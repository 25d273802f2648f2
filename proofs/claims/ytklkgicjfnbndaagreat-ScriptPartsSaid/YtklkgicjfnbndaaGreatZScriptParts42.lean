/- ScriptParts. -/
import Derived.Test.YtklkgicjfnbndaaGreatZScriptParts40
import Derived.Test.YtklkgicjfnbndaaGreatZScriptParts35
import Derived.Test.YtklkgicjfnbndaaGreatZScriptParts41
namespace Go.Proofs.YtklkgicjfnbndaaGreat
open Go.RowKit
set_option linter.unusedVariables false
set_option linter.unusedSimpArgs false
theorem actsL_pad {bs : List Nat} {r m : Nat} (h : bs.length = 3 * m) (hr : r ≤ 2) : actsL (bs ++ List.replicate r 0) = actsL bs := by
  unfold actsL
  rw [List.length_append, List.length_replicate, h, show (3 * m + r) / 3 = m by omega, show 3 * m / 3 = m by omega]
  refine List.map_congr_left fun j hj => ?_
  have hj := List.mem_range.1 hj
  have e : ∀ x, x < bs.length → at' (bs ++ List.replicate r 0) x = at' bs x := fun x hx => by
    unfold at'
    rw [List.getD_eq_getElem?_getD, List.getD_eq_getElem?_getD, List.getElem?_append_left hx]
  unfold actV
  rw [e _ (by omega), e _ (by omega), e _ (by omega)]
set_option maxRecDepth 100000 in
set_option maxHeartbeats 2000000 in
theorem scriptParts_walk (w : World) (mr : Nat) (hmr : mr ≤ 255) (a : Option Addr) (cap : Nat) (bs : List Nat) (hv : FreeB noReg w (.slice a bs.length cap) bs) (hcap : bs.length ≤ cap) : Calls Tryz.prog 8 #[.slice a bs.length cap, .int .u8 (mr : Int)] w (RetTrue noReg w) := by
  have HA := Lib.hid (awake24_any noReg w (Inv.noReg w))
  have HCt := Lib.hid (fun R' w' (h : Ev noReg w R' w') => cut24_any R' w' h.inv a cap bs (hv.ev h) hcap)
  obtain ⟨cs, hcs⟩ : ∃ cs, bs.take 75 = cs := ⟨_, rfl⟩
  rw [hcs] at HCt
  have hcl : cs.length ≤ 75 := by rw [← hcs, List.length_take]; omega
  have hc255 : ∀ i, i < cs.length → at' cs i ≤ 255 := by
    intro i hi
    have h := hv.take (min bs.length 75) (by omega)
    have e : bs.take (min bs.length 75) = cs := by
      rw [← hcs]
      rcases Nat.le_total bs.length 75 with h | h
      · rw [Nat.min_eq_left h, List.take_of_length_le (Nat.le_refl _), List.take_of_length_le h]
      · rw [Nat.min_eq_right h]
    rw [e] at h
    obtain ⟨_, _, _, _, _, h4⟩ := h.cell hi
    exact h4
  have H255 := Lib.hid hc255
  obtain ⟨m, hm⟩ : ∃ m, cs.length / 3 = m := ⟨_, rfl⟩
  obtain ⟨N, hN⟩ : ∃ N, cs.length = N := ⟨_, rfl⟩
  have HN := Lib.hid hN
  rw [hN] at HCt hm hcl
  obtain ⟨b3, hb3⟩ : ∃ b3, m * 3 = b3 := ⟨_, rfl⟩
  have hb3N : b3 ≤ N := by omega
  have HM := Lib.hid (And.intro hm hb3)
  have hq1 : (N : Int).tdiv 3 = (m : Int) := by rw [← hm]; rfl
  have hq2 : (m : Int) * 3 = (b3 : Int) := by omega
  clear hv hc255 hN hcs hm hb3
  go_enter Tryz.func8, Tryz.ntmps8
  go_wp2_with fail
  refine HA.out.mono ?_
  rintro e w1 ⟨rfl, R1, he1⟩
  have HE1 := Lib.hid he1
  clear he1
  go_wp2_with fail
  refine (HCt.out _ _ HE1.out).mono ?_
  rintro e w2 ⟨v2, rfl, he2, ho2⟩
  obtain ⟨a2, c2, rfl, hc2, hc3, _⟩ := ho2.open
  have hfb : FreeB R1 w2 (.slice a2 cs.length c2) cs := by
    refine OwnV.bytes (B := w1.heap.size) ?_ H255.out
    rw [HN.out]; exact ho2
  have hfb2 := hfb.take b3 (by rw [HN.out]; exact hb3N)
  obtain ⟨bb, hbb⟩ : ∃ bb, cs.take b3 = bb := ⟨_, rfl⟩
  have hbl : bb.length = b3 := by rw [← hbb, List.length_take, HN.out]; omega
  rw [hbb, hbl] at hfb2
  have HB := Lib.hid hfb2
  have HBl := Lib.hid hbl
  have HE2 := Lib.hid (HE1.out.trans he2)
  have he2' := HE2.out
  clear he2 ho2 hfb hfb2 hbb hbl
  have hbc : b3 ≤ c2 := by omega
  have HSd := Lib.hid (seed_any R1 w2 he2'.inv)
  clear hc2 hc3 he2'
  go_wp2_with fail
  refine HSd.out.mono ?_
  rintro e w3 ⟨p0, R3, rfl, he3, hp0⟩
  have hrd := read_any R3 w3 he3.inv a2 c2 bb (by rw [HBl.out]; exact HB.out.ev he3) (by rw [HBl.out]; exact hbc) (by rw [HBl.out]; omega)
  rw [HBl.out] at hrd
  obtain ⟨l, hl⟩ : ∃ l, actsL bb = l := ⟨_, rfl⟩
  have hlm : l.length = m := by rw [← hl]; unfold actsL; rw [List.length_map, List.length_range, HBl.out, ← HM.out.2]; omega
  rw [hl] at hrd
  have HRd := Lib.hid hrd
  have HL := Lib.hid hl
  have HLm := Lib.hid hlm
  have HE3 := Lib.hid (HE2.out.trans he3)
  have HB3 := Lib.hid (HB.out.ev he3)
  have HP0 := Lib.hid hp0
  clear hrd hl hlm he3 hp0 HB HSd
  go_wp2_with fail
  refine HRd.out.mono ?_
  rintro e w4 ⟨v4, rfl, he4, ho4⟩
  obtain ⟨a4, c4, rfl, _⟩ := ho4.open
  rw [HLm.out] at ho4 ⊢
  have HE4 := Lib.hid (HE3.out.trans he4)
  have HF4 := Lib.hid he4
  have HB4 := Lib.hid (HB3.out.ev he4)
  have HP4 := Lib.hid (he4.map HP0.out)
  have HO4 := Lib.hid ho4
  have hq3 : (b3 : Int).tdiv 3 = (m : Int) := by
    have h : b3 / 3 = m := by have := HM.out.2; omega
    rw [← h]; rfl
  clear he4 ho4 HRd HB3 HP0
  go_wp2_with fail
  go_loopg [5, 35] m (fun g v5 v35 wr => ∃ (i : Nat) (Rr : Reg) (q4 : Value) (s : List Nat) (root : Int) (lone : Nat), i ≤ m ∧ m - i ≤ g ∧ v35 = .int .i64 (i : Int) ∧ q4 = v5 ∧ Ev R3 w4 Rr wr ∧ MapAt Rr q4 s root lone ∧ (playL (l.take i)).1 = (s, root, (lone : Int)) ∧ lone ≤ 2 * i)
  case atStart => exact ⟨0, R3, p0, [0, 1], 0, 0, Nat.zero_le _, by omega, rfl, rfl, Ev.refl HF4.out.inv, HP4.out, rfl, by omega⟩
  case round =>
    obtain ⟨i, Rr, q4, s, root, lone, hik, hg, rfl, rfl, hev, hmp, hpl, hln⟩ := hrel
    have HE := Lib.hid hev
    have HM' := Lib.hid hmp
    have HPl := Lib.hid hpl
    have HI := Lib.hid hev.inv
    clear hev hmp hpl
    by_cases hi : i < m
    · have hir : (i : Int) < (m : Int) := by omega
      obtain ⟨h0, h1, h2⟩ := actCs_at l i (by rw [HLm.out]; exact hi)
      obtain ⟨g3, rfl, _, _, x0, _⟩ := (HO4.out.ev HE.out).headAt (i := i * 3) (by rw [actCs_len, HLm.out]; omega)
      obtain ⟨g3', e3, _, _, x1, _⟩ := (HO4.out.ev HE.out).headAt (i := i * 3 + 1) (by rw [actCs_len, HLm.out]; omega)
      cases e3
      obtain ⟨g3', e3, _, _, x2, _⟩ := (HO4.out.ev HE.out).headAt (i := i * 3 + 2) (by rw [actCs_len, HLm.out]; omega)
      cases e3
      rw [h0] at x0
      rw [h1] at x1
      rw [h2] at x2
      have hfb := HB4.out.ev HE.out
      rw [← HBl.out] at hfb
      have hi3 : i * 3 + 2 < bb.length := by rw [HBl.out]; have := HM.out.2; omega
      obtain ⟨gb, ob, eb, _, u0, b0⟩ := hfb.cell (i := 3 * i) (by omega)
      obtain ⟨gb', ob', eb', _, u1, b1⟩ := hfb.cell (i := 3 * i + 1) (by omega)
      rw [eb] at eb'
      cases eb'
      obtain ⟨gb', ob', eb', _, u2, b2⟩ := hfb.cell (i := 3 * i + 2) (by omega)
      rw [eb] at eb'
      cases eb'
      subst eb
      have hAv : actAt l i = (at' bb (3 * i) % 11, at' bb (3 * i + 1), at' bb (3 * i + 2)) := by
        rw [← HL.out]
        unfold actAt actsL
        rw [List.getD_eq_getElem?_getD, List.getElem?_map, List.getElem?_range (by have := HM.out.2; rw [HBl.out]; omega)]
        rfl
      obtain ⟨f0, hf0⟩ : ∃ x, at' bb (3 * i) = x := ⟨_, rfl⟩
      obtain ⟨kd, hkd⟩ : ∃ x, at' bb (3 * i + 1) = x := ⟨_, rfl⟩
      obtain ⟨ke, hke⟩ : ∃ x, at' bb (3 * i + 2) = x := ⟨_, rfl⟩
      rw [hf0, hkd, hke] at hAv
      rw [hf0] at u0 b0
      rw [hkd] at u1 b1
      rw [hke] at u2 b2
      have hv0 : IntKind.i64.wrap (f0 : Int) = (f0 : Int) := IntWalk.i64_in _ (by omega)
      have hv1 : IntKind.i64.wrap (kd : Int) = (kd : Int) := IntWalk.i64_in _ (by omega)
      have hv2 : IntKind.i64.wrap (ke : Int) = (ke : Int) := IntWalk.i64_in _ (by omega)
      obtain ⟨ka, hka⟩ : ∃ x, f0 % 11 = x := ⟨_, rfl⟩
      rw [hka] at hAv
      have hr0 : (f0 : Int).tmod 11 = (ka : Int) := by rw [← hka]; rfl
      have hr0' : (f0 : Int) % 11 = (ka : Int) := by rw [← hka]; rfl
      have HA' := Lib.hid hAv
      rw [hAv] at x0 x1 x2
      dsimp only at x0 x1 x2
      clear h0 h1 h2 hAv hf0 hkd hke hfb hka
      have heb : Ev Rr wr Rr (wr.alloc (.cells #[.int .i64 (ka : Int), .int .i64 (kd : Int), .int .i64 (ke : Int)] 50)) := (Ev.refl HI.out).alloc _
      have hbx := heap_alloc_new wr (.cells #[.int .i64 (ka : Int), .int .i64 (kd : Int), .int .i64 (ke : Int)] 50)
      obtain ⟨wb, hwb⟩ : ∃ x, wr.alloc (.cells #[.int .i64 (ka : Int), .int .i64 (kd : Int), .int .i64 (ke : Int)] 50) = x := ⟨_, rfl⟩
      have u0 : wb.cell? ⟨gb, ob + 3 * i, none⟩ = some (.int .u8 (f0 : Int)) := by rw [← hwb, World.cell?_alloc_lt _ _ _ (lt_of_cell u0)]; exact u0
      have u1 : wb.cell? ⟨gb, ob + (3 * i + 1), none⟩ = some (.int .u8 (kd : Int)) := by rw [← hwb, World.cell?_alloc_lt _ _ _ (lt_of_cell u1)]; exact u1
      have u2 : wb.cell? ⟨gb, ob + (3 * i + 2), none⟩ = some (.int .u8 (ke : Int)) := by rw [← hwb, World.cell?_alloc_lt _ _ _ (lt_of_cell u2)]; exact u2
      rw [hwb] at heb hbx
      have HEb := Lib.hid heb
      obtain ⟨y0, y1, y2, _⟩ := boxC_cells hbx
      have HD := Lib.hid (darts_any Rr wb heb.inv q4 s root lone (heb.map HM'.out))
      have HWb := Lib.hid hwb
      clear heb hbx hwb
      obtain ⟨N', hN'⟩ : ∃ N', max s.length 1 = N' := ⟨_, rfl⟩
      have HN' := Lib.hid hN'
      clear hN'
      obtain ⟨j0, hj0⟩ : ∃ x, 3 * i = x := ⟨_, rfl⟩
      obtain ⟨j1, hj1⟩ : ∃ x, j0 + 1 = x := ⟨_, rfl⟩
      obtain ⟨j2, hj2⟩ : ∃ x, j0 + 2 = x := ⟨_, rfl⟩
      rw [hj0] at u0 u1 u2
      rw [hj1] at u1
      rw [hj2] at u2
      have hw0 : IntKind.i64.wrap (3 * (i : Int)) = (j0 : Int) := by rw [show 3 * (i : Int) = (j0 : Int) by omega]; exact IntWalk.i64_in _ (by omega)
      have hw1 : IntKind.i64.wrap ((j0 : Int) + 1) = (j1 : Int) := by rw [show (j0 : Int) + 1 = (j1 : Int) by omega]; exact IntWalk.i64_in _ (by omega)
      have hw2 : IntKind.i64.wrap ((j0 : Int) + 2) = (j2 : Int) := by rw [show (j0 : Int) + 2 = (j2 : Int) by omega]; exact IntWalk.i64_in _ (by omega)
      have hb30 : (j0 : Int) < (b3 : Int) := by omega
      have hb31 : (j1 : Int) < (b3 : Int) := by omega
      have hb32 : (j2 : Int) < (b3 : Int) := by omega
      clear hj0 hj1 hj2
      go_upto_region 12 with fail
      try rw [HWb.out]
      refine wp_region_held_drew (S := (fun w' : World => w'.cell? ⟨wr.heap.size, 0, none⟩ = some (.int .i64 (ka : Int)) ∧ w'.cell? ⟨wr.heap.size, 1, none⟩ = some (.int .i64 (kd : Int)) ∧ w'.cell? ⟨wr.heap.size, 2, none⟩ = some (.int .i64 (ke : Int)) ∧ w'.cell? ⟨gb, ob + j0, none⟩ = some (.int .u8 (f0 : Int)) ∧ w'.cell? ⟨gb, ob + j1, none⟩ = some (.int .u8 (kd : Int)) ∧ w'.cell? ⟨gb, ob + j2, none⟩ = some (.int .u8 (ke : Int)))) (by kernel_rfl) ⟨y0, y1, y2, u0, u1, u2⟩ (fun hHeld => ?_)
      refine wpAnyH_take (i := 0) (v := ?c0) rfl (by kernel_rfl) (by kernel_rfl) (by kernel_rfl) (fun _ _ _ h => h) (Or.inl ⟨by rfl, ?c0h⟩) (by assumption) ?_
      case c0h => (intro w' hSw; (try dsimp only at hSw); obtain ⟨s0, s1, s2, s3, s4, s5⟩ := hSw; go_simp; try with_reducible rfl)
      try simp only [Act.put, List.getElem_toArray, List.getElem_cons_succ, List.getElem_cons_zero, List.setIfInBounds_toArray, List.set_cons_zero, List.set_cons_succ]
      refine wpAnyH_take (i := 1) (v := ?c1) rfl (by kernel_rfl) (by kernel_rfl) (by kernel_rfl) (fun _ _ _ h => h) (Or.inl ⟨by rfl, ?c1h⟩) (by assumption) ?_
      case c1h => (intro w' hSw; (try dsimp only at hSw); obtain ⟨s0, s1, s2, s3, s4, s5⟩ := hSw; go_simp; try with_reducible rfl)
      try simp only [Act.put, List.getElem_toArray, List.getElem_cons_succ, List.getElem_cons_zero, List.setIfInBounds_toArray, List.set_cons_zero, List.set_cons_succ]
      refine wpAnyH_take (i := 2) (v := ?c2) rfl (by kernel_rfl) (by kernel_rfl) (by kernel_rfl) (fun _ _ _ h => h) (Or.inl ⟨by rfl, ?c2h⟩) (by assumption) ?_
      case c2h => (intro w' hSw; (try dsimp only at hSw); obtain ⟨s0, s1, s2, s3, s4, s5⟩ := hSw; go_simp; try with_reducible rfl)
      try simp only [Act.put, List.getElem_toArray, List.getElem_cons_succ, List.getElem_cons_zero, List.setIfInBounds_toArray, List.set_cons_zero, List.set_cons_succ]
      refine wpAnyH_take (i := 3) (v := ?c3) rfl (by kernel_rfl) (by kernel_rfl) (by kernel_rfl) (fun _ _ _ h => h) (Or.inl ⟨by rfl, ?c3h⟩) (by assumption) ?_
      case c3h => (intro w' hSw; (try dsimp only at hSw); obtain ⟨s0, s1, s2, s3, s4, s5⟩ := hSw; go_simp; try with_reducible rfl)
      try simp only [Act.put, List.getElem_toArray, List.getElem_cons_succ, List.getElem_cons_zero, List.setIfInBounds_toArray, List.set_cons_zero, List.set_cons_succ]
      refine wpAnyH_take (i := 4) (v := ?c4) rfl (by kernel_rfl) (by kernel_rfl) (by kernel_rfl) (fun _ _ _ h => h) (Or.inl ⟨by rfl, ?c4h⟩) (by assumption) ?_
      case c4h => (intro w' hSw; (try dsimp only at hSw); obtain ⟨s0, s1, s2, s3, s4, s5⟩ := hSw; go_simp; try with_reducible rfl)
      try simp only [Act.put, List.getElem_toArray, List.getElem_cons_succ, List.getElem_cons_zero, List.setIfInBounds_toArray, List.set_cons_zero, List.set_cons_succ]
      refine wpAnyH_take (i := 5) (v := ?c5) rfl (by kernel_rfl) (by kernel_rfl) (by kernel_rfl) (fun _ _ _ h => h) (Or.inl ⟨by rfl, ?c5h⟩) (by assumption) ?_
      case c5h => (intro w' hSw; (try dsimp only at hSw); obtain ⟨s0, s1, s2, s3, s4, s5⟩ := hSw; go_simp; try with_reducible rfl)
      try simp only [Act.put, List.getElem_toArray, List.getElem_cons_succ, List.getElem_cons_zero, List.setIfInBounds_toArray, List.set_cons_zero, List.set_cons_succ]
      refine wpAnyH_take (i := 6) (v := ?c6) rfl (by kernel_rfl) (by kernel_rfl) (by kernel_rfl) (fun _ _ _ h => h) (Or.inl ⟨by rfl, ?c6h⟩) (by assumption) ?_
      case c6h => (intro w' hSw; (try dsimp only at hSw); obtain ⟨s0, s1, s2, s3, s4, s5⟩ := hSw; go_simp; try with_reducible rfl)
      try simp only [Act.put, List.getElem_toArray, List.getElem_cons_succ, List.getElem_cons_zero, List.setIfInBounds_toArray, List.set_cons_zero, List.set_cons_succ]
      refine wpAnyH_take (i := 7) (v := ?c7) rfl (by kernel_rfl) (by kernel_rfl) (by kernel_rfl) (fun _ _ _ h => h) (Or.inl ⟨by rfl, ?c7h⟩) (by assumption) ?_
      case c7h => (intro w' hSw; (try dsimp only at hSw); obtain ⟨s0, s1, s2, s3, s4, s5⟩ := hSw; go_simp; try with_reducible rfl)
      try simp only [Act.put, List.getElem_toArray, List.getElem_cons_succ, List.getElem_cons_zero, List.setIfInBounds_toArray, List.set_cons_zero, List.set_cons_succ]
      refine wpAnyH_take (i := 8) (v := ?c8) rfl (by kernel_rfl) (by kernel_rfl) (by kernel_rfl) (fun _ _ _ h => h) (Or.inl ⟨by rfl, ?c8h⟩) (by assumption) ?_
      case c8h => (intro w' hSw; (try dsimp only at hSw); obtain ⟨s0, s1, s2, s3, s4, s5⟩ := hSw; go_simp; try with_reducible rfl)
      try simp only [Act.put, List.getElem_toArray, List.getElem_cons_succ, List.getElem_cons_zero, List.setIfInBounds_toArray, List.set_cons_zero, List.set_cons_succ]
      refine wpAnyH_take (i := 9) (v := ?c9) rfl (by kernel_rfl) (by kernel_rfl) (by kernel_rfl) (fun _ _ _ h => h) (Or.inl ⟨by rfl, ?c9h⟩) (by assumption) ?_
      case c9h => (intro w' hSw; (try dsimp only at hSw); obtain ⟨s0, s1, s2, s3, s4, s5⟩ := hSw; go_simp; try with_reducible rfl)
      try simp only [Act.put, List.getElem_toArray, List.getElem_cons_succ, List.getElem_cons_zero, List.setIfInBounds_toArray, List.set_cons_zero, List.set_cons_succ]
      refine wpAnyH_take (i := 10) (v := ?c10) rfl (by kernel_rfl) (by kernel_rfl) (by kernel_rfl) (fun _ _ _ h => h) (Or.inl ⟨by rfl, ?c10h⟩) (by assumption) ?_
      case c10h => (intro w' hSw; (try dsimp only at hSw); obtain ⟨s0, s1, s2, s3, s4, s5⟩ := hSw; go_simp; try with_reducible rfl)
      try simp only [Act.put, List.getElem_toArray, List.getElem_cons_succ, List.getElem_cons_zero, List.setIfInBounds_toArray, List.set_cons_zero, List.set_cons_succ]
      refine wpAnyH_take (i := 11) (v := ?c11) rfl (by kernel_rfl) (by kernel_rfl) (by kernel_rfl) (fun _ _ _ h => h) (Or.inl ⟨by rfl, ?c11h⟩) (by assumption) ?_
      case c11h => (intro w' hSw; (try dsimp only at hSw); obtain ⟨s0, s1, s2, s3, s4, s5⟩ := hSw; go_simp; try with_reducible rfl)
      try simp only [Act.put, List.getElem_toArray, List.getElem_cons_succ, List.getElem_cons_zero, List.setIfInBounds_toArray, List.set_cons_zero, List.set_cons_succ]
      refine wpAnyH_take (i := 12) (v := ?c12) rfl (by kernel_rfl) (by kernel_rfl) (by kernel_rfl) (fun _ _ _ h => h) (Or.inl ⟨by rfl, ?c12h⟩) (by assumption) ?_
      case c12h => (intro w' hSw; (try dsimp only at hSw); obtain ⟨s0, s1, s2, s3, s4, s5⟩ := hSw; go_simp; try with_reducible rfl)
      try simp only [Act.put, List.getElem_toArray, List.getElem_cons_succ, List.getElem_cons_zero, List.setIfInBounds_toArray, List.set_cons_zero, List.set_cons_succ]
      refine wpAnyH_take (i := 13) (v := ?c13) rfl (by kernel_rfl) (by kernel_rfl) (by kernel_rfl) (fun _ _ _ h => h) (Or.inl ⟨by rfl, ?c13h⟩) (by assumption) ?_
      case c13h => (intro w' hSw; (try dsimp only at hSw); obtain ⟨s0, s1, s2, s3, s4, s5⟩ := hSw; go_simp; try with_reducible rfl)
      try simp only [Act.put, List.getElem_toArray, List.getElem_cons_succ, List.getElem_cons_zero, List.setIfInBounds_toArray, List.set_cons_zero, List.set_cons_succ]
      refine wpAnyH_take (i := 14) (v := ?c14) rfl (by kernel_rfl) (by kernel_rfl) (by kernel_rfl) (fun _ _ _ h => h) (Or.inl ⟨by rfl, ?c14h⟩) (by assumption) ?_
      case c14h => (intro w' hSw; (try dsimp only at hSw); obtain ⟨s0, s1, s2, s3, s4, s5⟩ := hSw; go_simp; try with_reducible rfl)
      try simp only [Act.put, List.getElem_toArray, List.getElem_cons_succ, List.getElem_cons_zero, List.setIfInBounds_toArray, List.set_cons_zero, List.set_cons_succ]
      refine wpAnyH_take (i := 15) (v := ?c15) rfl (by kernel_rfl) (by kernel_rfl) (by kernel_rfl) (fun _ _ _ h => h) (Or.inl ⟨by rfl, ?c15h⟩) (by assumption) ?_
      case c15h => (intro w' hSw; (try dsimp only at hSw); obtain ⟨s0, s1, s2, s3, s4, s5⟩ := hSw; go_simp; try with_reducible rfl)
      try simp only [Act.put, List.getElem_toArray, List.getElem_cons_succ, List.getElem_cons_zero, List.setIfInBounds_toArray, List.set_cons_zero, List.set_cons_succ]
      refine wpAnyH_take (i := 16) (v := ?c16) rfl (by kernel_rfl) (by kernel_rfl) (by kernel_rfl) (fun _ _ _ h => h) (Or.inl ⟨by rfl, ?c16h⟩) (by assumption) ?_
      case c16h => (intro w' hSw; (try dsimp only at hSw); obtain ⟨s0, s1, s2, s3, s4, s5⟩ := hSw; go_simp; try with_reducible rfl)
      try simp only [Act.put, List.getElem_toArray, List.getElem_cons_succ, List.getElem_cons_zero, List.setIfInBounds_toArray, List.set_cons_zero, List.set_cons_succ]
      refine wpAnyH_take (i := 17) (v := ?c17) rfl (by kernel_rfl) (by kernel_rfl) (by kernel_rfl) (fun _ _ _ h => h) (Or.inl ⟨by rfl, ?c17h⟩) (by assumption) ?_
      case c17h => (intro w' hSw; (try dsimp only at hSw); obtain ⟨s0, s1, s2, s3, s4, s5⟩ := hSw; go_simp; try with_reducible rfl)
      try simp only [Act.put, List.getElem_toArray, List.getElem_cons_succ, List.getElem_cons_zero, List.setIfInBounds_toArray, List.set_cons_zero, List.set_cons_succ]
      refine wpAnyH_take (i := 18) (v := ?c18) rfl (by kernel_rfl) (by kernel_rfl) (by kernel_rfl) (fun _ _ _ h => h) (Or.inl ⟨by rfl, ?c18h⟩) (by assumption) ?_
      case c18h => (intro w' hSw; (try dsimp only at hSw); obtain ⟨s0, s1, s2, s3, s4, s5⟩ := hSw; go_simp; try with_reducible rfl)
      try simp only [Act.put, List.getElem_toArray, List.getElem_cons_succ, List.getElem_cons_zero, List.setIfInBounds_toArray, List.set_cons_zero, List.set_cons_succ]
      refine wpAnyH_take (i := 19) (v := ?c19) rfl (by kernel_rfl) (by kernel_rfl) (by kernel_rfl) (fun _ _ _ h => h) (Or.inl ⟨by rfl, ?c19h⟩) (by assumption) ?_
      case c19h => (intro w' hSw; (try dsimp only at hSw); obtain ⟨s0, s1, s2, s3, s4, s5⟩ := hSw; go_simp; try with_reducible rfl)
      try simp only [Act.put, List.getElem_toArray, List.getElem_cons_succ, List.getElem_cons_zero, List.setIfInBounds_toArray, List.set_cons_zero, List.set_cons_succ]
      refine wpAnyH_take (i := 20) (v := ?c20) rfl (by kernel_rfl) (by kernel_rfl) (by kernel_rfl) (fun _ _ _ h => h) (Or.inl ⟨by rfl, ?c20h⟩) (by assumption) ?_
      case c20h => (intro w' hSw; (try dsimp only at hSw); obtain ⟨s0, s1, s2, s3, s4, s5⟩ := hSw; go_simp; try with_reducible rfl)
      try simp only [Act.put, List.getElem_toArray, List.getElem_cons_succ, List.getElem_cons_zero, List.setIfInBounds_toArray, List.set_cons_zero, List.set_cons_succ]
      refine wpAnyH_take (i := 21) (v := ?c21) rfl (by kernel_rfl) (by kernel_rfl) (by kernel_rfl) (fun _ _ _ h => h) (Or.inl ⟨by rfl, ?c21h⟩) (by assumption) ?_
      case c21h => (intro w' hSw; (try dsimp only at hSw); obtain ⟨s0, s1, s2, s3, s4, s5⟩ := hSw; go_simp; try with_reducible rfl)
      try simp only [Act.put, List.getElem_toArray, List.getElem_cons_succ, List.getElem_cons_zero, List.setIfInBounds_toArray, List.set_cons_zero, List.set_cons_succ]
      refine wpAnyH_take (i := 22) (v := ?c22) rfl (by kernel_rfl) (by kernel_rfl) (by kernel_rfl) (fun _ _ _ h => h) (Or.inl ⟨by rfl, ?c22h⟩) (by assumption) ?_
      case c22h => (intro w' hSw; (try dsimp only at hSw); obtain ⟨s0, s1, s2, s3, s4, s5⟩ := hSw; go_simp; try with_reducible rfl)
      try simp only [Act.put, List.getElem_toArray, List.getElem_cons_succ, List.getElem_cons_zero, List.setIfInBounds_toArray, List.set_cons_zero, List.set_cons_succ]
      refine wpAnyH_take (i := 23) (v := ?c23) rfl (by kernel_rfl) (by kernel_rfl) (by kernel_rfl) (fun _ _ _ h => h) (Or.inl ⟨by rfl, ?c23h⟩) (by assumption) ?_
      case c23h => (intro w' hSw; (try dsimp only at hSw); obtain ⟨s0, s1, s2, s3, s4, s5⟩ := hSw; go_simp; try with_reducible rfl)
      try simp only [Act.put, List.getElem_toArray, List.getElem_cons_succ, List.getElem_cons_zero, List.setIfInBounds_toArray, List.set_cons_zero, List.set_cons_succ]
      refine wpAnyH_take (i := 24) (v := ?c24) rfl (by kernel_rfl) (by kernel_rfl) (by kernel_rfl) (fun _ _ _ h => h) (Or.inl ⟨by rfl, ?c24h⟩) (by assumption) ?_
      case c24h => (intro w' hSw; (try dsimp only at hSw); obtain ⟨s0, s1, s2, s3, s4, s5⟩ := hSw; go_simp; try with_reducible rfl)
      try simp only [Act.put, List.getElem_toArray, List.getElem_cons_succ, List.getElem_cons_zero, List.setIfInBounds_toArray, List.set_cons_zero, List.set_cons_succ]
      refine wpAnyH_take (i := 25) (v := ?c25) rfl (by kernel_rfl) (by kernel_rfl) (by kernel_rfl) (fun _ _ _ h => h) (Or.inl ⟨by rfl, ?c25h⟩) (by assumption) ?_
      case c25h => (intro w' hSw; (try dsimp only at hSw); obtain ⟨s0, s1, s2, s3, s4, s5⟩ := hSw; go_simp; try with_reducible rfl)
      try simp only [Act.put, List.getElem_toArray, List.getElem_cons_succ, List.getElem_cons_zero, List.setIfInBounds_toArray, List.set_cons_zero, List.set_cons_succ]
      refine wpAnyH_take (i := 26) (v := ?c26) rfl (by kernel_rfl) (by kernel_rfl) (by kernel_rfl) (fun _ _ _ h => h) (Or.inl ⟨by rfl, ?c26h⟩) (by assumption) ?_
      case c26h => (intro w' hSw; (try dsimp only at hSw); obtain ⟨s0, s1, s2, s3, s4, s5⟩ := hSw; go_simp; try with_reducible rfl)
      try simp only [Act.put, List.getElem_toArray, List.getElem_cons_succ, List.getElem_cons_zero, List.setIfInBounds_toArray, List.set_cons_zero, List.set_cons_succ]
      refine wpAnyH_take (i := 27) (v := ?c27) rfl (by kernel_rfl) (by kernel_rfl) (by kernel_rfl) (fun _ _ _ h => h) (Or.inl ⟨by rfl, ?c27h⟩) (by assumption) ?_
      case c27h => (intro w' hSw; (try dsimp only at hSw); obtain ⟨s0, s1, s2, s3, s4, s5⟩ := hSw; go_simp; try with_reducible rfl)
      try simp only [Act.put, List.getElem_toArray, List.getElem_cons_succ, List.getElem_cons_zero, List.setIfInBounds_toArray, List.set_cons_zero, List.set_cons_succ]
      refine wpAnyH_take (i := 28) (v := ?c28) rfl (by kernel_rfl) (by kernel_rfl) (by kernel_rfl) (fun _ _ _ h => h) (Or.inl ⟨by rfl, ?c28h⟩) (by assumption) ?_
      case c28h => (intro w' hSw; (try dsimp only at hSw); obtain ⟨s0, s1, s2, s3, s4, s5⟩ := hSw; go_simp; try with_reducible rfl)
      try simp only [Act.put, List.getElem_toArray, List.getElem_cons_succ, List.getElem_cons_zero, List.setIfInBounds_toArray, List.set_cons_zero, List.set_cons_succ]
      refine wpAnyH_take (i := 29) (v := ?c29) rfl (by kernel_rfl) (by kernel_rfl) (by kernel_rfl) (fun _ _ _ h => h) (Or.inl ⟨by rfl, ?c29h⟩) (by assumption) ?_
      case c29h => (intro w' hSw; (try dsimp only at hSw); obtain ⟨s0, s1, s2, s3, s4, s5⟩ := hSw; go_simp; try with_reducible rfl)
      try simp only [Act.put, List.getElem_toArray, List.getElem_cons_succ, List.getElem_cons_zero, List.setIfInBounds_toArray, List.set_cons_zero, List.set_cons_succ]
      refine wpAnyH_take (i := 30) (v := ?c30) rfl (by kernel_rfl) (by kernel_rfl) (by kernel_rfl) (fun _ _ _ h => h) (Or.inl ⟨by rfl, ?c30h⟩) (by assumption) ?_
      case c30h => (intro w' hSw; (try dsimp only at hSw); obtain ⟨s0, s1, s2, s3, s4, s5⟩ := hSw; go_simp; try with_reducible rfl)
      try simp only [Act.put, List.getElem_toArray, List.getElem_cons_succ, List.getElem_cons_zero, List.setIfInBounds_toArray, List.set_cons_zero, List.set_cons_succ]
      refine wpAnyH_take (i := 31) (v := ?c31) rfl (by kernel_rfl) (by kernel_rfl) (by kernel_rfl) (fun _ _ _ h => h) (Or.inl ⟨by rfl, ?c31h⟩) (by assumption) ?_
      case c31h => (intro w' hSw; (try dsimp only at hSw); obtain ⟨s0, s1, s2, s3, s4, s5⟩ := hSw; go_simp; try with_reducible rfl)
      try simp only [Act.put, List.getElem_toArray, List.getElem_cons_succ, List.getElem_cons_zero, List.setIfInBounds_toArray, List.set_cons_zero, List.set_cons_succ]
      refine wpAnyH_take (i := 32) (v := ?c32) rfl (by kernel_rfl) (by kernel_rfl) (by kernel_rfl) (fun _ _ _ h => h) (Or.inl ⟨by rfl, ?c32h⟩) (by assumption) ?_
      case c32h => (intro w' hSw; (try dsimp only at hSw); obtain ⟨s0, s1, s2, s3, s4, s5⟩ := hSw; go_simp; try with_reducible rfl)
      try simp only [Act.put, List.getElem_toArray, List.getElem_cons_succ, List.getElem_cons_zero, List.setIfInBounds_toArray, List.set_cons_zero, List.set_cons_succ]
      refine wpAnyH_take (i := 33) (v := ?c33) rfl (by kernel_rfl) (by kernel_rfl) (by kernel_rfl) (fun _ _ _ h => h) (Or.inl ⟨by rfl, ?c33h⟩) (by assumption) ?_
      case c33h => (intro w' hSw; (try dsimp only at hSw); obtain ⟨s0, s1, s2, s3, s4, s5⟩ := hSw; go_simp; try with_reducible rfl)
      try simp only [Act.put, List.getElem_toArray, List.getElem_cons_succ, List.getElem_cons_zero, List.setIfInBounds_toArray, List.set_cons_zero, List.set_cons_succ]
      refine wpAnyH_done (by kernel_rfl) ?_ _
      obtain ⟨d0, d1, d2, _⟩ := hHeld
      clear u0 u1 u2 x0 x1 x2 y0 y1 y2
      have HEd := Lib.hid ((Ev.refl HEb.out.inv).drew)
      have HD := Lib.hid (darts_any Rr wb.drew HEd.out.inv q4 s root lone ((HEb.out.trans HEd.out).map HM'.out))
      go_upto_region 14 with fail
      go_cut [9] (fun s9 wx => s9 = .int .i64 (N' : Int) ∧ wx = wb.drew)
      case first =>
        go_wp2_with fail
        refine HD.out.mono ?_
        rintro z w5 ⟨rfl, rfl⟩
        go_wp2_with fail
        all_goals go_meet
        all_goals exact ⟨by have := HN'.out; congr 1; omega, rfl⟩
      case rest =>
        obtain ⟨rfl, rfl⟩ := hcut
        have hnp : 1 ≤ N' := by have := HN'.out; omega
        obtain ⟨dd, hdd⟩ : ∃ x, kd % N' = x := ⟨_, rfl⟩
        obtain ⟨ee, hee⟩ : ∃ x, ke % N' = x := ⟨_, rfl⟩
        have hr1 : (kd : Int).tmod (N' : Int) = (dd : Int) := by rw [← hdd]; rfl
        have hr2 : (ke : Int).tmod (N' : Int) = (ee : Int) := by rw [← hee]; rfl
        have hr3 : (kd : Int) % (N' : Int) = (dd : Int) := by rw [← hdd]; rfl
        have hr4 : (ke : Int) % (N' : Int) = (ee : Int) := by rw [← hee]; rfl
        have hn0 : ¬ (N' : Int) = 0 := by omega
        have hn1 : ¬ N' = 0 := by omega
        have hddl : dd ≤ 200000 := by
          have h1 : dd < N' := by rw [← hdd]; exact Nat.mod_lt _ (by omega)
          have h2 := (HM'.out.ok HI.out).2.2.1
          have := HN'.out
          omega
        have HDo := Lib.hid (fun w' (h : Ev Rr wb.drew Rr w') => sdo_any Rr w' h.inv q4 s root lone (h.map ((HEb.out.trans HEd.out).map HM'.out)) (ka : Int) (dd : Int) (ee : Int) (by omega) (by omega))
        have HSt := Lib.hid (show stepP (playL (l.take i)).1 (actAt l i) = (if actC s root lone ka dd ee = 0 then (actM s root ka dd ee, actRt s root ka dd, actLn s lone ka dd) else (s, root, (lone : Int)), actC s root lone ka dd ee) by
          rw [HPl.out, HA'.out]
          unfold stepP
          dsimp only
          rw [HN'.out, hdd, hee])
        have hlnn := actLn_le s lone ka dd
        obtain ⟨C, hC⟩ : ∃ x, actC s root lone ka dd ee = x := ⟨_, rfl⟩
        obtain ⟨M, hM⟩ : ∃ x, actM s root ka dd ee = x := ⟨_, rfl⟩
        obtain ⟨rt, hrt⟩ : ∃ x, actRt s root ka dd = x := ⟨_, rfl⟩
        obtain ⟨ln, hln'⟩ : ∃ x, actLn s lone ka dd = x := ⟨_, rfl⟩
        rw [hC, hM, hrt, hln'] at HDo HSt
        rw [hln'] at hlnn
        have HLn := Lib.hid hlnn
        have HEf := Lib.hid ((Ev.refl HEd.out.inv).drew)
        clear hC hM hrt hln' hdd hee hlnn
        go_wp2_with fail
        refine wp_region_held_drew (S := (fun w' : World => w'.cell? ⟨wr.heap.size, 0, none⟩ = some (.int .i64 (ka : Int)) ∧ w'.cell? ⟨wr.heap.size, 1, none⟩ = some (.int .i64 (kd : Int)) ∧ w'.cell? ⟨wr.heap.size, 2, none⟩ = some (.int .i64 (ke : Int)))) (by kernel_rfl) ⟨d0, d1, d2⟩ (fun hHeld2 => ?_)
        refine wpAnyH_take (i := 0) (v := ?e0) rfl (by kernel_rfl) (by kernel_rfl) (by kernel_rfl) (fun _ _ _ h => h) (Or.inl ⟨by rfl, ?e0h⟩) (by assumption) ?_
        case e0h => (intro w' hSw; (try dsimp only at hSw); obtain ⟨s0, s1, s2⟩ := hSw; go_simp; try with_reducible rfl)
        try simp only [Act.put, List.getElem_toArray, List.getElem_cons_succ, List.getElem_cons_zero, List.setIfInBounds_toArray, List.set_cons_zero, List.set_cons_succ]
        refine wpAnyH_take (i := 1) (v := ?e1) rfl (by kernel_rfl) (by kernel_rfl) (by kernel_rfl) (fun _ _ _ h => h) (Or.inl ⟨by rfl, ?e1h⟩) (by assumption) ?_
        case e1h => (intro w' hSw; (try dsimp only at hSw); obtain ⟨s0, s1, s2⟩ := hSw; go_simp; try with_reducible rfl)
        try simp only [Act.put, List.getElem_toArray, List.getElem_cons_succ, List.getElem_cons_zero, List.setIfInBounds_toArray, List.set_cons_zero, List.set_cons_succ]
        refine wpAnyH_take (i := 2) (v := ?e2) rfl (by kernel_rfl) (by kernel_rfl) (by kernel_rfl) (fun _ _ _ h => h) (Or.inl ⟨by rfl, ?e2h⟩) (by assumption) ?_
        case e2h => (intro w' hSw; (try dsimp only at hSw); obtain ⟨s0, s1, s2⟩ := hSw; go_simp; try with_reducible rfl)
        try simp only [Act.put, List.getElem_toArray, List.getElem_cons_succ, List.getElem_cons_zero, List.setIfInBounds_toArray, List.set_cons_zero, List.set_cons_succ]
        refine wpAnyH_take (i := 3) (v := ?e3) rfl (by kernel_rfl) (by kernel_rfl) (by kernel_rfl) (fun _ _ _ h => h) (Or.inl ⟨by rfl, ?e3h⟩) (by assumption) ?_
        case e3h => (intro w' hSw; (try dsimp only at hSw); obtain ⟨s0, s1, s2⟩ := hSw; go_simp; try with_reducible rfl)
        try simp only [Act.put, List.getElem_toArray, List.getElem_cons_succ, List.getElem_cons_zero, List.setIfInBounds_toArray, List.set_cons_zero, List.set_cons_succ]
        refine wpAnyH_take (i := 4) (v := ?e4) rfl (by kernel_rfl) (by kernel_rfl) (by kernel_rfl) (fun _ _ _ h => h) (Or.inl ⟨by rfl, ?e4h⟩) (by assumption) ?_
        case e4h => (intro w' hSw; (try dsimp only at hSw); obtain ⟨s0, s1, s2⟩ := hSw; go_simp; try with_reducible rfl)
        try simp only [Act.put, List.getElem_toArray, List.getElem_cons_succ, List.getElem_cons_zero, List.setIfInBounds_toArray, List.set_cons_zero, List.set_cons_succ]
        refine wpAnyH_take (i := 5) (v := ?e5) rfl (by kernel_rfl) (by kernel_rfl) (by kernel_rfl) (fun _ _ _ h => h) (Or.inl ⟨by rfl, ?e5h⟩) (by assumption) ?_
        case e5h => (intro w' hSw; (try dsimp only at hSw); obtain ⟨s0, s1, s2⟩ := hSw; go_simp; try with_reducible rfl)
        try simp only [Act.put, List.getElem_toArray, List.getElem_cons_succ, List.getElem_cons_zero, List.setIfInBounds_toArray, List.set_cons_zero, List.set_cons_succ]
        refine wpAnyH_take (i := 6) (v := ?e6) rfl (by kernel_rfl) (by kernel_rfl) (by kernel_rfl) (fun _ _ _ h => h) (Or.inl ⟨by rfl, ?e6h⟩) (by assumption) ?_
        case e6h => (intro w' hSw; (try dsimp only at hSw); obtain ⟨s0, s1, s2⟩ := hSw; go_simp; try with_reducible rfl)
        try simp only [Act.put, List.getElem_toArray, List.getElem_cons_succ, List.getElem_cons_zero, List.setIfInBounds_toArray, List.set_cons_zero, List.set_cons_succ]
        refine wpAnyH_take (i := 7) (v := ?e7) rfl (by kernel_rfl) (by kernel_rfl) (by kernel_rfl) (fun _ _ _ h => h) (Or.inl ⟨by rfl, ?e7h⟩) (by assumption) ?_
        case e7h => (intro w' hSw; (try dsimp only at hSw); obtain ⟨s0, s1, s2⟩ := hSw; go_simp; try with_reducible rfl)
        try simp only [Act.put, List.getElem_toArray, List.getElem_cons_succ, List.getElem_cons_zero, List.setIfInBounds_toArray, List.set_cons_zero, List.set_cons_succ]
        refine wpAnyH_take (i := 8) (v := ?e8) rfl (by kernel_rfl) (by kernel_rfl) (by kernel_rfl) (fun _ _ _ h => h) (Or.inl ⟨by rfl, ?e8h⟩) (by assumption) ?_
        case e8h => (intro w' hSw; (try dsimp only at hSw); obtain ⟨s0, s1, s2⟩ := hSw; go_simp; try with_reducible rfl)
        try simp only [Act.put, List.getElem_toArray, List.getElem_cons_succ, List.getElem_cons_zero, List.setIfInBounds_toArray, List.set_cons_zero, List.set_cons_succ]
        refine wpAnyH_take (i := 9) (v := ?e9) rfl (by kernel_rfl) (by kernel_rfl) (by kernel_rfl) (fun _ _ _ h => h) (Or.inl ⟨by rfl, ?e9h⟩) (by assumption) ?_
        case e9h => (intro w' hSw; (try dsimp only at hSw); obtain ⟨s0, s1, s2⟩ := hSw; go_simp; try with_reducible rfl)
        try simp only [Act.put, List.getElem_toArray, List.getElem_cons_succ, List.getElem_cons_zero, List.setIfInBounds_toArray, List.set_cons_zero, List.set_cons_succ]
        refine wpAnyH_take (i := 10) (v := ?e10) rfl (by kernel_rfl) (by kernel_rfl) (by kernel_rfl) (fun _ _ _ h => h) (Or.inl ⟨by rfl, ?e10h⟩) (by assumption) ?_
        case e10h => (intro w' hSw; (try dsimp only at hSw); obtain ⟨s0, s1, s2⟩ := hSw; go_simp; try with_reducible rfl)
        try simp only [Act.put, List.getElem_toArray, List.getElem_cons_succ, List.getElem_cons_zero, List.setIfInBounds_toArray, List.set_cons_zero, List.set_cons_succ]
        refine wpAnyH_take (i := 11) (v := ?e11) rfl (by kernel_rfl) (by kernel_rfl) (by kernel_rfl) (fun _ _ _ h => h) (Or.inl ⟨by rfl, ?e11h⟩) (by assumption) ?_
        case e11h => (intro w' hSw; (try dsimp only at hSw); obtain ⟨s0, s1, s2⟩ := hSw; go_simp; try with_reducible rfl)
        try simp only [Act.put, List.getElem_toArray, List.getElem_cons_succ, List.getElem_cons_zero, List.setIfInBounds_toArray, List.set_cons_zero, List.set_cons_succ]
        refine wpAnyH_ready (rs := [12]) (by kernel_rfl) (by simp) (AllReadyH.cons rfl (fun K hK => ?_) AllReadyH.nil)
        go_simp
        refine (HDo.out _ HEf.out).mono ?_
        rintro z w6 ⟨q6, R6, rfl, he6, hq6, hm6⟩
        have HM6 := Lib.hid hm6
        have HE6 := Lib.hid (HEf.out.trans he6)
        have HG6 := Lib.hid (HEb.out.trans (HEd.out.trans HE6.out))
        have hbx6 : w6.heap[wr.heap.size]? = some (.cells #[.int .i64 (ka : Int), .int .i64 (kd : Int), .int .i64 (ke : Int)] 50 (0, 0)) := ((HEd.out.trans HE6.out).block _ (by have := HWb.out; rw [← this]; simp) (HI.out.none_of_ge (Nat.le_refl _))).trans (by rw [← HWb.out]; exact heap_alloc_new wr (.cells #[.int .i64 (ka : Int), .int .i64 (kd : Int), .int .i64 (ke : Int)] 50))
        obtain ⟨z0, z1, z2, _⟩ := boxC_cells hbx6
        have hS6 : (fun w' : World => w'.cell? ⟨wr.heap.size, 0, none⟩ = some (.int .i64 (ka : Int)) ∧ w'.cell? ⟨wr.heap.size, 1, none⟩ = some (.int .i64 (kd : Int)) ∧ w'.cell? ⟨wr.heap.size, 2, none⟩ = some (.int .i64 (ke : Int))) w6 := ⟨z0, z1, z2⟩
        clear he6 hq6 hm6 hbx6
        go_simp
        refine hK.out _ _ hS6 (fun hHeld6 => ?_)
        clear hHeld2
        refine wpAnyH_take (i := 13) (v := ?e13) rfl (by kernel_rfl) (by kernel_rfl) (by kernel_rfl) (fun _ _ _ h => h) (Or.inl ⟨by rfl, ?e13h⟩) (by assumption) ?_
        case e13h => (intro w' hSw; (try dsimp only at hSw); obtain ⟨s0, s1, s2⟩ := hSw; go_simp; try with_reducible rfl)
        try simp only [Act.put, List.getElem_toArray, List.getElem_cons_succ, List.getElem_cons_zero, List.setIfInBounds_toArray, List.set_cons_zero, List.set_cons_succ]
        refine wpAnyH_take (i := 14) (v := ?e14) rfl (by kernel_rfl) (by kernel_rfl) (by kernel_rfl) (fun _ _ _ h => h) (Or.inl ⟨by rfl, ?e14h⟩) (by assumption) ?_
        case e14h => (intro w' hSw; (try dsimp only at hSw); obtain ⟨s0, s1, s2⟩ := hSw; go_simp; try with_reducible rfl)
        try simp only [Act.put, List.getElem_toArray, List.getElem_cons_succ, List.getElem_cons_zero, List.setIfInBounds_toArray, List.set_cons_zero, List.set_cons_succ]
        refine wpAnyH_take (i := 15) (v := ?e15) rfl (by kernel_rfl) (by kernel_rfl) (by kernel_rfl) (fun _ _ _ h => h) (Or.inl ⟨by rfl, ?e15h⟩) (by assumption) ?_
        case e15h => (intro w' hSw; (try dsimp only at hSw); obtain ⟨s0, s1, s2⟩ := hSw; go_simp; try with_reducible rfl)
        try simp only [Act.put, List.getElem_toArray, List.getElem_cons_succ, List.getElem_cons_zero, List.setIfInBounds_toArray, List.set_cons_zero, List.set_cons_succ]
        refine wpAnyH_take (i := 16) (v := ?e16) rfl (by kernel_rfl) (by kernel_rfl) (by kernel_rfl) (fun _ _ _ h => h) (Or.inl ⟨by rfl, ?e16h⟩) (by assumption) ?_
        case e16h => (intro w' hSw; (try dsimp only at hSw); obtain ⟨s0, s1, s2⟩ := hSw; go_simp; try with_reducible rfl)
        try simp only [Act.put, List.getElem_toArray, List.getElem_cons_succ, List.getElem_cons_zero, List.setIfInBounds_toArray, List.set_cons_zero, List.set_cons_succ]
        refine wpAnyH_take (i := 17) (v := ?e17) rfl (by kernel_rfl) (by kernel_rfl) (by kernel_rfl) (fun _ _ _ h => h) (Or.inl ⟨by rfl, ?e17h⟩) (by assumption) ?_
        case e17h => (intro w' hSw; (try dsimp only at hSw); obtain ⟨s0, s1, s2⟩ := hSw; go_simp; try with_reducible rfl)
        try simp only [Act.put, List.getElem_toArray, List.getElem_cons_succ, List.getElem_cons_zero, List.setIfInBounds_toArray, List.set_cons_zero, List.set_cons_succ]
        refine wpAnyH_done (by kernel_rfl) ?_ _
        clear hHeld6 z0 z1 z2 d0 d1 d2
        have HE9 := Lib.hid (HE.out.trans HG6.out)
        by_cases hC0 : C = 0
        · have hcb : (C == 0) = true := by rw [hC0]; rfl
          have HC0 := Lib.hid hC0
          clear hC0
          go_wp2_with fail
          go_roundg (m - (i + 1))
          case measure => omega
          case rel =>
            have hm := HM6.out HC0.out
            have hln := HLn.out
            refine ⟨i + 1, R6, q6, M, rt, ln.toNat, by omega, by omega, by go_num, rfl, HE9.out, by rw [show ((ln.toNat : Nat) : Int) = ln by omega]; exact hm, ?_, by omega⟩
            rw [playL_take (by rw [HLm.out]; exact hi), HSt.out, HC0.out, if_pos rfl, show ((ln.toNat : Nat) : Int) = ln by omega]
        · have hcb : (C == 0) = false := beq_eq_false_iff_ne.2 hC0
          have HC0 := Lib.hid hC0
          clear hC0
          go_wp2_with fail
          go_roundg (m - (i + 1))
          case measure => omega
          case rel =>
            refine ⟨i + 1, R6, q4, s, root, lone, by omega, by omega, by go_num, rfl, HE9.out, HG6.out.map HM'.out, ?_, by omega⟩
            rw [playL_take (by rw [HLm.out]; exact hi), HSt.out, if_neg HC0.out]
    · have him : i = m := by omega
      have HPl' : Hid ((playL l).1 = (s, root, (lone : Int))) := Lib.hid (by have := HPl.out; rwa [him, List.take_of_length_le (by rw [HLm.out]; exact Nat.le_refl _)] at this)
      have hir : ¬ ((i : Int) < (m : Int)) := by omega
      have hfb := HB4.out.ev HE.out
      have hfb' : FreeB Rr wr (.slice a2 bb.length c2) bb := by rw [HBl.out]; exact hfb
      have hb255 : ∀ j, j < bb.length → at' bb j ≤ 255 := fun j hj => by obtain ⟨_, _, _, _, _, h⟩ := hfb'.cell hj; exact h
      have HB255 := Lib.hid hb255
      have HCl := Lib.hid (bclone_any Rr wr HI.out a2 c2 bb hfb' (by rw [HBl.out]; omega))
      rw [HBl.out] at HCl
      obtain ⟨r, hr⟩ : ∃ r, mr % 3 = r := ⟨_, rfl⟩
      have hr2 : r ≤ 2 := by omega
      have hr0 : (mr : Int).tmod 3 = (r : Int) := by rw [← hr]; rfl
      have hr0' : (mr : Int) % 3 = (r : Int) := by rw [← hr]; rfl
      have hv0 : IntKind.i64.wrap (r : Int) = (r : Int) := IntWalk.i64_in _ (by omega)
      clear hfb hfb' hb255 hr
      go_wp2_with fail
      refine HCl.out.mono ?_
      rintro e w5 ⟨v5, rfl, he5, ho5⟩
      have HE5 := Lib.hid he5
      have HO5 := Lib.hid ho5
      clear he5 ho5
      go_wp2_with (at_builtin; refine wpList_app_zb rfl _ _ rfl HO5.out rfl r rfl ?z1 ?z2 ?z3 ?_)
      case z1 => omega
      case z2 => exact HE5.out.size
      case z3 => exact fun q hq => HE5.out.inv.none_of_ge hq
      intro v6 w6 ho6 hg6
      have he6 : Ev Rr wr Rr w6 := HE5.out.appV HO5.out (Nat.le_refl _) hg6
      obtain ⟨a6, c6, rfl, hc6, hc6', _⟩ := ho6.open
      obtain ⟨ee, hee⟩ : ∃ x, bb ++ List.replicate r 0 = x := ⟨_, rfl⟩
      have hel : ee.length = b3 + r := by rw [← hee, List.length_append, List.length_replicate, HBl.out]
      have hfe : FreeB Rr w6 (.slice a6 ee.length c6) ee := by
        refine OwnV.bytes (B := wr.heap.size) ?_ (fun j hj => ?_)
        · rw [hel]
          have e : bytesV ee = bytesV bb ++ List.replicate r (.int .u8 0) := by rw [← hee]; unfold bytesV; rw [List.map_append, List.map_replicate]; rfl
          rw [e]; exact ho6
        · have hj2 : j < b3 + r := by rw [← hel]; exact hj
          rw [← hee]
          by_cases hjb : j < bb.length
          · rw [show at' (bb ++ List.replicate r 0) j = at' bb j by unfold at'; rw [List.getD_eq_getElem?_getD, List.getD_eq_getElem?_getD, List.getElem?_append_left hjb]]
            exact HB255.out j hjb
          · rw [show at' (bb ++ List.replicate r 0) j = 0 by
              unfold at'
              rw [List.getD_eq_getElem?_getD, List.getElem?_append_right (by omega), List.getElem?_replicate]
              split <;> rfl]
            omega
      have hae : actsL ee = l := by
        rw [← HL.out]
        have h1 : 3 * m = bb.length := by rw [HBl.out]; have := HM.out.2; omega
        have h2 := actsL_pad (bs := bb) (r := r) h1.symm hr2
        rw [hee] at h2
        exact h2
      have hpl := play_any Rr w6 he6.inv a6 c6 ee hfe (by rw [hel]; exact hc6) (by rw [hel]; omega)
      rw [hae, hel] at hpl
      have HPy := Lib.hid hpl
      have HE6 := Lib.hid he6
      clear hpl hae hfe hel hee he6 ho6 hg6 hc6 hc6'
      try simp only [Act.put, List.setIfInBounds_toArray]
      go_wp2_with fail
      refine HPy.out.mono ?_
      rintro e w7 ⟨q7, v7, R7, rfl, he7, hq7, ho7⟩
      rw [HPl'.out] at hq7
      have hl7 : (playL l).2.length = m := by have := playL_codes l l.length (Nat.le_refl _); rwa [List.take_of_length_le (Nat.le_refl _), HLm.out] at this
      rw [hl7] at ho7
      obtain ⟨a7, c7, rfl, _⟩ := ho7.open
      have HSm := Lib.hid (msame_any R7 w7 he7.inv q4 q7 s s root root lone lone ((HE6.out.trans he7).map HM'.out) hq7)
      have HE7 := Lib.hid (HE.out.trans (HE6.out.trans he7))
      have hsb : sameB s s root root (lone : Int) (lone : Int) = true := by simp [sameB]
      clear he7 hq7 ho7
      go_wp2_with fail
      refine HSm.out.mono ?_
      rintro e w8 ⟨rfl, he8⟩
      have HE8 := Lib.hid (HE7.out.trans he8)
      rw [hsb]
      clear he8
      go_wp2_with fail
      go_ret
      exact ⟨rfl, _, HE4.out.trans HE8.out⟩
end Go.Proofs.YtklkgicjfnbndaaGreat
