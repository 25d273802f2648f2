/- parquetryref14.Tri: some triangulation. Conditions: at most 100 inner vertices. -/
import Derived.Test.YtcnmbenfnpjkjaaZSA47
import Derived.Test.YtcnmbenfnpjkjaaZSA48
namespace Go.Proofs.Ytcnmbenfnpjkjaa
open Go.RowKit
set_option linter.unusedVariables false
set_option linter.unusedSimpArgs false

def RetTri (R : Reg) (w : World) (n : Nat) (e : Ending) (w' : World) : Prop :=
  ∃ s rt, TriS s ∧ s.length = n ∧ rt < n ∧ RetMap R w s ((rt : Nat) : Int) 0 e w'

/-- three cells of a box are stored: the slice, two numbers -/
theorem store_box3 {R : Reg} {w w4 : World} {b b0 m c T B E : Nat} {a : Option Addr} {y z c0 c1 c2 : Value} {o : Obj} {xs : List Int} (he : Ev R w R w4) (hb : w4.heap[b]? = some (.cells #[c0, c1, c2] T (0, 0))) (hw : w.heap.size ≤ b) (hn : R b = none)
    (hb0 : w4.heap[b0]? = some o) (hne : b0 < b) (ho : OwnI R B E w4 (.slice a m c) xs) (hq : b < B) :
    Ev R w R (((w4.setCell ⟨b, 0, none⟩ (.slice a m c)).setCell ⟨b, 1, none⟩ y).setCell ⟨b, 2, none⟩ z) ∧
    (((w4.setCell ⟨b, 0, none⟩ (.slice a m c)).setCell ⟨b, 1, none⟩ y).setCell ⟨b, 2, none⟩ z).heap[b0]? = some o ∧
    (((w4.setCell ⟨b, 0, none⟩ (.slice a m c)).setCell ⟨b, 1, none⟩ y).setCell ⟨b, 2, none⟩ z).heap[b]? = some (.cells #[.slice a m c, y, z] T (0, 0)) ∧
    OwnI R B E (((w4.setCell ⟨b, 0, none⟩ (.slice a m c)).setCell ⟨b, 1, none⟩ y).setCell ⟨b, 2, none⟩ z) (.slice a m c) xs := by
  have hno : ∀ (i : Nat), (Value.slice a m c).ownBlock ≠ some (⟨b, i, none⟩ : Addr).block := fun i e => by
    have h1 := (ho.lt _ e).1
    have h2 : (⟨b, i, none⟩ : Addr).block = b := rfl
    omega
  refine ⟨((he.setCell (p := ⟨b, 0, none⟩) hw hn _).setCell (p := ⟨b, 1, none⟩) hw hn _).setCell (p := ⟨b, 2, none⟩) hw hn _, ?_, set3 hb, ((ho.setCell (hno 0) _).setCell (hno 1) _).setCell (hno 2) _⟩
  rw [Below.heap_setCell _ _ _ _ (by show b0 ≠ b; omega), Below.heap_setCell _ _ _ _ (by show b0 ≠ b; omega), Below.heap_setCell _ _ _ _ (by show b0 ≠ b; omega)]
  exact hb0

set_option maxRecDepth 100000 in
set_option maxHeartbeats 3000000 in
theorem r14tri_any (R : Reg) (w : World) (hI : Inv R w) (k : Nat) (hk : k ≤ 100) (v : Value) (bs : List Nat) (hv : FreeB R w v bs) (root : Nat) (hr : root ≤ 255) :
    Calls Try.prog 7 #[.int .i64 (k : Int), v, .int .u8 (root : Int)] w (RetTri R w (6 + 6 * k)) := by
  have hpk := fun w' (h : Ev R w R w') t ht => pick_any R w' h.inv v bs (hv.ev h) t ht
  obtain ⟨a0, c0, rfl, _, _⟩ := hv
  have HPk := Lib.hid hpk
  have HI := Lib.hid hI
  have hn0 : R w.heap.size = none := hI.none_of_ge (Nat.le_refl _)
  have hn2 : R (w.heap.size + 2) = none := hI.none_of_ge (by omega)
  have he0 : Ev R w R (w.alloc (.cells #[.slice none 0 0, .int .i64 0, .int .i64 0] 26)) := (Ev.refl hI).alloc _
  have he1 := he0.alloc (.cells #[.int .i64 5, .int .i64 2, .int .i64 1, .int .i64 4, .int .i64 3, .int .i64 0] 3)
  have he2 := he1.alloc (.cells #[.slice (some ⟨w.heap.size + 1, 0, none⟩) 6 6, .int .i64 0, .int .i64 0] 26)
  have ho1 : OwnI R w.heap.size 3 ((w.alloc (.cells #[.slice none 0 0, .int .i64 0, .int .i64 0] 26)).alloc (.cells #[.int .i64 5, .int .i64 2, .int .i64 1, .int .i64 4, .int .i64 3, .int .i64 0] 3)) (.slice (some ⟨w.heap.size + 1, 0, none⟩) 6 6) (toI [5, 2, 1, 4, 3, 0]) := ⟨⟨(by first | rfl | simp | simp [maxLen] | simp [toI]), Or.inr ⟨w.heap.size + 1, 6, #[.int .i64 5, .int .i64 2, .int .i64 1, .int .i64 4, .int .i64 3, .int .i64 0], (by first | rfl | simp | simp [maxLen] | simp [toI]), (by simp), (by have := heap_alloc_new (w.alloc (.cells #[.slice none 0 0, .int .i64 0, .int .i64 0] 26)) (.cells #[.int .i64 5, .int .i64 2, .int .i64 1, .int .i64 4, .int .i64 3, .int .i64 0] 3); simpa using this), (by first | rfl | simp | simp [maxLen] | simp [toI]), (by first | rfl | simp | simp [maxLen] | simp [toI]), (by first | rfl | simp | simp [maxLen] | simp [toI]), (by first | rfl | simp | simp [maxLen] | simp [toI])⟩⟩, fun j hj => he0.inv.none_of_ge (Nat.le_of_eq (by have := Option.some.inj (show some (w.heap.size + 1) = some j from hj); simp; omega))⟩
  have ho2 := ho1.alloc (.cells #[.slice (some ⟨w.heap.size + 1, 0, none⟩) 6 6, .int .i64 0, .int .i64 0] 26)
  have hb0 : (((w.alloc (.cells #[.slice none 0 0, .int .i64 0, .int .i64 0] 26)).alloc (.cells #[.int .i64 5, .int .i64 2, .int .i64 1, .int .i64 4, .int .i64 3, .int .i64 0] 3)).alloc (.cells #[.slice (some ⟨w.heap.size + 1, 0, none⟩) 6 6, .int .i64 0, .int .i64 0] 26)).heap[w.heap.size]? = some (.cells #[.slice none 0 0, .int .i64 0, .int .i64 0] 26 (0, 0)) := by
    rw [Below.heap_alloc _ _ _ (by simp; omega), Below.heap_alloc _ _ _ (by simp)]
    exact heap_alloc_new w _
  have hb2 : (((w.alloc (.cells #[.slice none 0 0, .int .i64 0, .int .i64 0] 26)).alloc (.cells #[.int .i64 5, .int .i64 2, .int .i64 1, .int .i64 4, .int .i64 3, .int .i64 0] 3)).alloc (.cells #[.slice (some ⟨w.heap.size + 1, 0, none⟩) 6 6, .int .i64 0, .int .i64 0] 26)).heap[w.heap.size + 2]? = some (.cells #[.slice (some ⟨w.heap.size + 1, 0, none⟩) 6 6, .int .i64 0, .int .i64 0] 26 (0, 0)) := by
    have := heap_alloc_new ((w.alloc (.cells #[.slice none 0 0, .int .i64 0, .int .i64 0] 26)).alloc (.cells #[.int .i64 5, .int .i64 2, .int .i64 1, .int .i64 4, .int .i64 3, .int .i64 0] 3)) (.cells #[.slice (some ⟨w.heap.size + 1, 0, none⟩) 6 6, .int .i64 0, .int .i64 0] 26)
    simpa using this
  clear hpk hI he0 he1 ho1
  have HE2 := Lib.hid he2
  have HO2 := Lib.hid ho2
  have HB0 := Lib.hid hb0
  have HB2 := Lib.hid hb2
  clear he2 ho2 hb0 hb2
  go_enter Try.func7, Try.ntmps7
  go_wp2_with fail
  go_loopg [8, 9] k (fun g v8 v9 wr => ∃ (i t : Nat) (s : List Nat) (a : Option Addr) (c : Nat), i ≤ k ∧ k - i ≤ g ∧ v8 = .int .i64 (t : Int) ∧ v9 = .int .i64 (i : Int) ∧ t ≤ 3 * i ∧ TriS s ∧ s.length = 6 + 6 * i ∧ Ev R w R wr ∧ wr.heap[w.heap.size]? = some (.cells #[.slice none 0 0, .int .i64 0, .int .i64 0] 26 (0, 0)) ∧ wr.heap[w.heap.size + 2]? = some (.cells #[.slice a (6 + 6 * i) c, .int .i64 0, .int .i64 0] 26 (0, 0)) ∧ OwnI R w.heap.size 3 wr (.slice a (6 + 6 * i) c) (toI s) ∧ ∀ j, (Value.slice a (6 + 6 * i) c).ownBlock = some j → j ≠ w.heap.size ∧ j ≠ w.heap.size + 2)
  case atStart => exact ⟨0, 0, [5, 2, 1, 4, 3, 0], some ⟨w.heap.size + 1, 0, none⟩, 6, Nat.zero_le _, by omega, rfl, rfl, by omega, triS_one, rfl, HE2.out, HB0.out, HB2.out, HO2.out, fun j hj => by have := Option.some.inj (show some (w.heap.size + 1) = some j from hj); omega⟩
  case round =>
    clear HE2 HB0 HB2 HO2
    obtain ⟨i, t, s, a, c, hik, hg, rfl, rfl, ht, hT, hsl, hev, hb0, hb2, ho, hob⟩ := hrel
    obtain ⟨n, hn⟩ : ∃ n, 6 + 6 * i = n := ⟨_, rfl⟩
    rw [hn] at hsl hb2 ho hob
    have HOb := Lib.hid hob
    clear hob
    have HN := Lib.hid hn
    have HT := Lib.hid hT
    have HSl := Lib.hid hsl
    have HE := Lib.hid hev
    have HB0 := Lib.hid hb0
    have HB2 := Lib.hid hb2
    have HO := Lib.hid ho
    clear hT hsl hev hb0 hb2 ho hn
    obtain ⟨x0, x1, x2, xf⟩ := boxC_cells HB2.out
    have xf0 := xf 0
    have xf1 := xf 1
    have xf2 := xf 2
    clear xf
    by_cases hi : i < k
    · obtain ⟨p, hp⟩ : ∃ p, pickN bs t = p := ⟨_, rfl⟩
      have hPk := HPk.out wr.drew HE.out.drew t (by omega)
      rw [hp] at hPk
      obtain ⟨d, hd⟩ : ∃ d, p % n = d := ⟨_, rfl⟩
      have hnp : 0 < n := by have := HN.out; omega
      have hdn : d < n := by rw [← hd]; exact Nat.mod_lt _ hnp
      have hr1 : (p : Int).tmod (n : Int) = (d : Int) := by rw [← hd]; rfl
      have hr2 : (p : Int) % (n : Int) = (d : Int) := by rw [← hd]; rfl
      have hnz : ¬ (n : Int) = 0 := by omega
      have hnz' : ¬ n = 0 := by omega
      have HPk1 := Lib.hid hPk
      have HPt := Lib.hid (fun w' (h : Ev R wr R w') => r14put_any R w' h.inv (.slice a n c) s 0 0 (HO.out.ev h).free HT.out.perm (by have := HSl.out; have := HN.out; omega) HT.out.even d (by rw [HSl.out]; exact hdn))
      unfold RetMap refV at HPt
      have HEd := Lib.hid ((Ev.refl HE.out.inv).drew)
      have HEb := Lib.hid (fun w' (h : Ev R wr R w') => boxC_cells (h.boxC3 HB2.out (by exact hn2)).1)
      have HDn := Lib.hid hdn
      clear hp hd hPk hdn
      go_wp2_with fail
      have hsl1 : (starC s (orbitL (phiL s) d)).length = n + 6 := by rw [starC_length, HT.out.orb (by rw [HSl.out]; exact HDn.out), HSl.out]; rfl
      have hT1 := HT.out.star (d := d) (by rw [HSl.out]; exact HDn.out)
      obtain ⟨T, hTe⟩ : ∃ T, starC s (orbitL (phiL s) d) = T := ⟨_, rfl⟩
      rw [hTe] at hsl1 hT1 HPt
      rw [hsl1] at HPt
      have HTl := Lib.hid hsl1
      have HT1 := Lib.hid hT1
      clear hsl1 hT1 hTe
      go_cut [] (fun wx => Ev R w R wx ∧ wx.heap[w.heap.size]? = some (.cells #[.slice none 0 0, .int .i64 0, .int .i64 0] 26 (0, 0)) ∧ ∃ (a1 : Option Addr) (c1 : Nat), wx.heap[w.heap.size + 2]? = some (.cells #[.slice a1 (n + 6) c1, .int .i64 0, .int .i64 0] 26 (0, 0)) ∧ OwnI R (w.heap.size + 3) 3 wx (.slice a1 (n + 6) c1) (toI T))
      case first =>
        go_region_with (first | (go_at_call 23; refine HPk1.out.mono ?_; rintro e w3 ⟨rfl, he3⟩; have HEd := Lib.hid (HEd.out.trans he3); clear he3; obtain ⟨x0, x1, x2, _⟩ := HEb.out _ HEd.out) | (go_at_call 22; refine (HPt.out _ HEd.out).mono ?_; rintro e w4 ⟨a4, c4, rfl, he4, ho4⟩; (try unfold refV); have HEe := Lib.hid (HEd.out.trans he4); have HO4 := Lib.hid (ho4.mono (Nat.le_trans (lt_of_block HB2.out) HEd.out.size)); clear he4 ho4 xf0 xf1 xf2; obtain ⟨x0, x1, x2, xf⟩ := HEb.out _ HEe.out; have xf0 := xf 0; have xf1 := xf 1; have xf2 := xf 2; clear xf))
        all_goals (go_wp2_with fail; go_meet)
        all_goals
          obtain ⟨r1, r2, r3, r4⟩ := store_box3 (b := w.heap.size + 2) (b0 := w.heap.size) (y := .int .i64 0) (z := .int .i64 0) (HE.out.trans HEe.out) (HEe.out.boxC3 HB2.out hn2).1 (by omega) hn2 (HEe.out.boxC3 HB0.out hn0).1 (by omega) HO4.out (by omega)
          exact ⟨r1, r2, a4, c4, r3, r4⟩
      case rest =>
        obtain ⟨hev, hb0, a1, c1, hb2, ho⟩ := hcut
        as_aux_lemma =>
          clear HE HB0 HB2 HO HPk1 HPt HEd HEb x0 x1 x2 xf0 xf1 xf2 hr1 hr2 hnz hnz'
          have HE := Lib.hid hev
          have HB0 := Lib.hid hb0
          have HB2 := Lib.hid hb2
          have HO := Lib.hid ho
          clear hev hb0 hb2 ho
          obtain ⟨t1, ht1⟩ : ∃ x, t + 1 = x := ⟨_, rfl⟩
          obtain ⟨t2, ht2⟩ : ∃ x, t + 2 = x := ⟨_, rfl⟩
          have hw1 : IntKind.i64.wrap ((t : Int) + 2) = (t2 : Int) := by rw [show (t : Int) + 2 = (t2 : Int) by omega]; exact IntWalk.i64_in _ (by omega)
          have hw2 : IntKind.i64.wrap ((t2 : Int) - 1) = (t1 : Int) := by rw [show (t2 : Int) - 1 = (t1 : Int) by omega]; exact IntWalk.i64_in _ (by omega)
          have hPk := HPk.out wc HE.out t1 (by omega)
          obtain ⟨p1, hp1⟩ : ∃ p, pickN bs t1 = p := ⟨_, rfl⟩
          rw [hp1] at hPk
          have HPk1 := Lib.hid hPk
          clear hPk hp1
          obtain ⟨q1, hq1⟩ : ∃ q, p1 % 2 = q := ⟨_, rfl⟩
          have hr1 : (p1 : Int).tmod 2 = (q1 : Int) := by rw [← hq1]; rfl
          have hr2 : (p1 : Int) % 2 = (q1 : Int) := by rw [← hq1]; rfl
          have HQ1 := Lib.hid hq1
          clear hq1
          go_wp2_with fail
          refine HPk1.out.mono ?_
          rintro e w5 ⟨rfl, he5⟩
          have HE5 := Lib.hid (HE.out.trans he5)
          have HB05 := Lib.hid (he5.boxC3 HB0.out hn0).1
          have HB25 := Lib.hid (he5.boxC3 HB2.out hn2).1
          have HO5 := Lib.hid (HO.out.ev he5)
          clear he5 HE HB0 HB2 HO HPk1
          obtain ⟨x0, x1, x2, xf⟩ := boxC_cells HB25.out
          have xf0 := xf 0
          have xf1 := xf 1
          have xf2 := xf 2
          clear xf
          have ht3 : IntKind.i64.wrap ((t2 : Int) + 1) = ((t + 3 : Nat) : Int) := by rw [show (t2 : Int) + 1 = ((t + 3 : Nat) : Int) by omega]; exact IntWalk.i64_in _ (by omega)
          have hi1 : IntKind.i64.wrap ((i : Int) + 1) = ((i + 1 : Nat) : Int) := by rw [show (i : Int) + 1 = ((i + 1 : Nat) : Int) by omega]; exact IntWalk.i64_in _ (by omega)
          have hn6 : n + 6 = 6 + 6 * (i + 1) := by have := HN.out; omega
          have HN6 := Lib.hid hn6
          clear hn6
          by_cases hev : q1 = 0
          · have hb1 : ((q1 : Int) == 0) = true := beq_iff_eq.2 (by omega)
            obtain ⟨p, hp⟩ : ∃ p, pickN bs t2 = p := ⟨_, rfl⟩
            have hPk := HPk.out w5.drew HE5.out.drew t2 (by omega)
            rw [hp] at hPk
            obtain ⟨N, hN⟩ : ∃ N, n + 6 = N := ⟨_, rfl⟩
            rw [hN] at HB25 HO5 x0 HTl HN6
            try rw [hN]
            obtain ⟨d2, hd2⟩ : ∃ d, p % N = d := ⟨_, rfl⟩
            have hdn : d2 < N := by rw [← hd2]; exact Nat.mod_lt _ (by omega)
            have hr3 : (p : Int).tmod (N : Int) = (d2 : Int) := by rw [← hd2]; rfl
            have hr4 : (p : Int) % (N : Int) = (d2 : Int) := by rw [← hd2]; rfl
            have hnz : ¬ (N : Int) = 0 := by omega
            have hnz' : ¬ N = 0 := by omega
            have HPk2 := Lib.hid hPk
            have hlt2 := lt_of_block HB25.out
            have HLt := Lib.hid hlt2
            have HFl := Lib.hid (fun w' (h : Ev R w5 R w') => r14flip_any R (w.heap.size + 3) w' h.inv (.slice a1 N c1) T 0 (HO5.out.ev h) (Nat.le_trans HLt.out h.size) HT1.out (by have := HTl.out; have := HN6.out; omega) d2 (by rw [HTl.out]; exact hdn))
            rw [HTl.out] at HFl
            unfold RetFl refV at HFl
            have HEd := Lib.hid ((Ev.refl HE5.out.inv).drew)
            have HEb := Lib.hid (fun w' (h : Ev R w5 R w') => boxC_cells (h.boxC3 HB25.out hn2).1)
            clear hp hd2 hPk hdn hN hev hlt2
            go_wp2_with fail
            go_cut [] (fun wx => Ev R w R wx ∧ wx.heap[w.heap.size]? = some (.cells #[.slice none 0 0, .int .i64 0, .int .i64 0] 26 (0, 0)) ∧ ∃ (a2 : Option Addr) (c2 : Nat) (T2 : List Nat), TriS T2 ∧ T2.length = N ∧ wx.heap[w.heap.size + 2]? = some (.cells #[.slice a2 N c2, .int .i64 0, .int .i64 0] 26 (0, 0)) ∧ OwnI R (w.heap.size + 3) 3 wx (.slice a2 N c2) (toI T2))
            case first =>
              go_region_with (first | (go_at_call 23; refine HPk2.out.mono ?_; rintro e w6 ⟨rfl, he6⟩; have HEd := Lib.hid (HEd.out.trans he6); clear he6; obtain ⟨x0, x1, x2, _⟩ := HEb.out _ HEd.out) | (go_at_call 24; refine (HFl.out _ HEd.out).mono ?_; rintro e w7 ⟨a4, c4, T4, hT4, hl4, rfl, he4, ho4⟩; have HEe := Lib.hid (HEd.out.trans he4); have HO4 := Lib.hid ho4; have HT4 := Lib.hid (show TriS T4 ∧ T4.length = N from ⟨hT4, hl4⟩); clear hT4 hl4 he4 ho4 xf0 xf1 xf2; obtain ⟨x0, x1, x2, xf⟩ := HEb.out _ HEe.out; have xf0 := xf 0; have xf1 := xf 1; have xf2 := xf 2; clear xf))
              all_goals (go_wp2_with fail; go_meet)
              all_goals
                obtain ⟨r1, r2, r3, r4⟩ := store_box3 (b := w.heap.size + 2) (b0 := w.heap.size) (y := .int .i64 0) (z := .int .i64 0) (HE5.out.trans HEe.out) (HEe.out.boxC3 HB25.out hn2).1 (by omega) hn2 (HEe.out.boxC3 HB05.out hn0).1 (by omega) HO4.out (by omega)
                exact ⟨r1, r2, a4, c4, T4, HT4.out.1, HT4.out.2, r3, r4⟩
            case rest =>
              obtain ⟨hev, hb0, a2, c2, T2, hT2, hl2, hb2, ho⟩ := hcut
              as_aux_lemma =>
                clear HPk2 HFl HEd HEb HE5 HB05 HB25 HO5 x0 x1 x2 xf0 xf1 xf2 hr3 hr4 hnz hnz' hr1 hr2
                go_wp2_with fail
                go_roundg (k - (i + 1))
                case measure => omega
                case rel =>
                  have hN6 := HN6.out
                  subst hN6
                  exact ⟨i + 1, t + 3, T2, a2, c2, by omega, by omega, by go_num, by go_num, by omega, hT2, hl2, hev, hb0, hb2, ho.mono (by omega), fun j hj => by have := (ho.lt j hj).1; omega⟩
          · have hb1 : ((q1 : Int) == 0) = false := beq_eq_false_iff_ne.2 (by omega)
            clear hev
            go_wp2_with fail
            go_roundg (k - (i + 1))
            case measure => omega
            case rel =>
              have hN6 := HN6.out
              rw [hN6] at HTl HB25 HO5
              exact ⟨i + 1, t + 2, T, a1, c1, by omega, by omega, by rw [← ht2], by go_num, by omega, HT1.out, HTl.out, HE5.out, HB05.out, HB25.out, HO5.out.mono (by omega), fun j hj => by have := (HO5.out.lt j hj).1; omega⟩
    · have hik' : i = k := by omega
      as_aux_lemma =>
        obtain ⟨y0, y1, y2, yf⟩ := boxC_cells HB0.out
        have yf0 := yf 0
        have yf1 := yf 1
        have yf2 := yf 2
        clear yf
        obtain ⟨rr, hrr⟩ : ∃ x, root % n = x := ⟨_, rfl⟩
        have hnp : 0 < n := by have := HN.out; omega
        have hrn : rr < n := by rw [← hrr]; exact Nat.mod_lt _ hnp
        have hv0 : IntKind.i64.wrap (root : Int) = (root : Int) := IntWalk.i64_in _ (by omega)
        have hr1 : (root : Int).tmod (n : Int) = (rr : Int) := by rw [← hrr]; rfl
        have hr2 : (root : Int) % (n : Int) = (rr : Int) := by rw [← hrr]; rfl
        have hnz : ¬ (n : Int) = 0 := by omega
        have hnz' : ¬ n = 0 := by omega
        have HRn := Lib.hid hrn
        clear hrr hrn
        have HNk := Lib.hid (show n = 6 + 6 * k by rw [← hik']; exact HN.out.symm)
        go_wp2_with fail
        have hb1 : (wr.setCell ⟨w.heap.size + 2, 1, none⟩ (.int .i64 (rr : Int))).heap[w.heap.size]? = some (.cells #[.slice none 0 0, .int .i64 0, .int .i64 0] 26 (0, 0)) := by
          rw [Below.heap_setCell _ _ _ _ (by show w.heap.size ≠ w.heap.size + 2; omega)]
          exact HB0.out
        have hb3 := set3 (x := .slice a n c) (y := .int .i64 (rr : Int)) (z := .int .i64 0) hb1
        obtain ⟨u0, u1, u2, _⟩ := boxC_cells hb3
        have hE := (((HE.out.setCell (p := ⟨w.heap.size + 2, 1, none⟩) (by show w.heap.size ≤ w.heap.size + 2; omega) hn2 (.int .i64 (rr : Int))).setCell (p := ⟨w.heap.size, 0, none⟩) (Nat.le_refl _) hn0 (.slice a n c)).setCell (p := ⟨w.heap.size, 1, none⟩) (Nat.le_refl _) hn0 (.int .i64 (rr : Int))).setCell (p := ⟨w.heap.size, 2, none⟩) (Nat.le_refl _) hn0 (.int .i64 0)
        have hno : ∀ (o : Nat), (Value.slice a n c).ownBlock ≠ some (⟨w.heap.size, o, none⟩ : Addr).block := fun o e => (HOb.out _ e).1 rfl
        have hno2 : (Value.slice a n c).ownBlock ≠ some (⟨w.heap.size + 2, 1, none⟩ : Addr).block := fun e => (HOb.out _ e).2 rfl
        have hO := (((HO.out.setCell (a := ⟨w.heap.size + 2, 1, none⟩) hno2 (.int .i64 (rr : Int))).setCell (a := ⟨w.heap.size, 0, none⟩) (hno 0) (.slice a n c)).setCell (a := ⟨w.heap.size, 1, none⟩) (hno 1) (.int .i64 (rr : Int))).setCell (a := ⟨w.heap.size, 2, none⟩) (hno 2) (.int .i64 0)
        rw [← HNk.out]
        refine bodyPost_ret (v := refV (.slice a n c) (rr : Int) 0) ?_ rfl ⟨s, rr, HT.out, HSl.out, HRn.out, a, c, by rw [HSl.out], hE, by rw [HSl.out]; exact hO⟩
        simp [results, Try.results7, go_sem, u0, u1, u2, refV]
end Go.Proofs.Ytcnmbenfnpjkjaa
