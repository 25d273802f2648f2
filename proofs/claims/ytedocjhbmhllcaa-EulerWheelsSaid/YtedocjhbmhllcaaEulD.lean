/- euler.Doubles, Simple. Conditions: the map is registered. -/
import Derived.Test.YtedocjhbmhllcaaEulC
import Derived.Test.YtedocjhbmhllcaaMapsB
namespace Go.Proofs.Ytedocjhbmhllcaa
open Go.RowKit Go.Maps
set_option linter.unusedVariables false

def loN (s : List Nat) (e : Nat) : Int := if nth (namesL s) (2 * e) ≤ nth (namesL s) (2 * e + 1) then nth (namesL s) (2 * e) else nth (namesL s) (2 * e + 1)
def hiN (s : List Nat) (e : Nat) : Int := if nth (namesL s) (2 * e) ≤ nth (namesL s) (2 * e + 1) then nth (namesL s) (2 * e + 1) else nth (namesL s) (2 * e)
def pcnt (s : List Nat) : Nat → Int → Int → Int
  | 0 => fun _ _ => 0
  | e + 1 => if loopB s e = true then pcnt s e else pairUp (pcnt s e) (loN s e) (hiN s e) (pcnt s e (loN s e) (hiN s e) + 1)

theorem pcnt_bound (s : List Nat) (a b : Int) : ∀ e, 0 ≤ pcnt s e a b ∧ pcnt s e a b ≤ e
  | 0 => ⟨Int.le_refl _, Int.le_refl _⟩
  | e + 1 => by
    have ih := pcnt_bound s a b e
    unfold pcnt
    split
    · omega
    · unfold pairUp
      split
      · rename_i h
        rw [← h.1, ← h.2]
        omega
      · omega

theorem pcnt_pos (s : List Nat) (a b : Int) : ∀ e, 0 < pcnt s e a b ↔ ∃ f, f < e ∧ ¬ loopB s f = true ∧ loN s f = a ∧ hiN s f = b
  | 0 => by simp [pcnt]
  | e + 1 => by
    have ih := pcnt_pos s a b e
    have hb := pcnt_bound s a b e
    unfold pcnt
    by_cases hl : loopB s e = true
    · rw [if_pos hl, ih]
      constructor
      · rintro ⟨f, h1, h2⟩; exact ⟨f, by omega, h2⟩
      · rintro ⟨f, h1, h2⟩
        refine ⟨f, ?_, h2⟩
        by_cases e' : f = e
        · subst e'; exact absurd hl h2.1
        · omega
    · rw [if_neg hl]
      unfold pairUp
      by_cases h : a = loN s e ∧ b = hiN s e
      · rw [if_pos h]
        refine ⟨fun _ => ⟨e, by omega, hl, h.1.symm, h.2.symm⟩, fun _ => ?_⟩
        rw [← h.1, ← h.2]; omega
      · rw [if_neg h, ih]
        constructor
        · rintro ⟨f, h1, h2⟩; exact ⟨f, by omega, h2⟩
        · rintro ⟨f, h1, h2⟩
          refine ⟨f, ?_, h2⟩
          by_cases e' : f = e
          · subst e'; exact absurd ⟨h2.2.1.symm, h2.2.2.symm⟩ h
          · omega

theorem dblB_iff {s : List Nat} {e : Nat} (hl : ¬ loopB s e = true) : dblB s e = true ↔ 0 < pcnt s e (loN s e) (hiN s e) := by
  rw [pcnt_pos]
  unfold dblB
  simp only [Bool.and_eq_true, List.any_eq_true, List.mem_range, Bool.not_eq_true']
  have hne : nth (namesL s) (2 * e) ≠ nth (namesL s) (2 * e + 1) := fun h => hl (by unfold loopB; rw [beq_iff_eq]; exact h)
  have key : ∀ f, (pairB s e f = true ↔ ¬ loopB s f = true ∧ loN s f = loN s e ∧ hiN s f = hiN s e) := fun f => by
    unfold pairB loopB loN hiN
    simp only [Bool.or_eq_true, Bool.and_eq_true, beq_iff_eq]
    split <;> split <;> omega
  constructor
  · rintro ⟨_, f, hf, hp⟩; exact ⟨f, hf, (key f).1 hp⟩
  · rintro ⟨f, hf, hp⟩; exact ⟨by simpa using hl, f, hf, (key f).2 hp⟩

set_option maxRecDepth 100000 in
set_option maxHeartbeats 2000000 in
theorem edoubles_any (R : Reg) (w : World) (hI : Inv R w) (p : Value) (s : List Nat) (root : Int) (lone : Nat) (hp : MapAt R p s root lone) :
    Calls Try.prog 54 #[p] w (RetV R w (.int .i64 (dblsL s : Nat))) := by
  obtain ⟨hs, hok⟩ := hp.ok hI
  have hn : s.length ≤ 131073 := hok.2.1
  have hmm := @run_makeMap Try.prog
  have HEd := Lib.hid (fun R' w' (he : Ev R w R' w') => edges_any R' w' he.inv p s root lone (he.map hp))
  have HVt := Lib.hid (fun R' w' (he : Ev R w R' w') (x : Nat) (hx : x < s.length) => by
    have := vertex_any R' w' he.inv p s root lone (he.map hp) x
    rwa [nameI_in hx] at this)
  have HNb := Lib.hid (fun x (hx : x < s.length) => (names_lt hs hx))
  have HSz := Lib.hid (sizesL_le hs)
  obtain ⟨E, hE⟩ : ∃ E, s.length / 2 = E := ⟨_, rfl⟩
  have hEn : 2 * E ≤ s.length := by omega
  have HA : Hid (dblsL s = dblsTo s E) := Lib.hid (by unfold dblsL; rw [hE])
  rw [hE] at HEd
  have HI := Lib.hid hI
  have HLb := Lib.hid (fun e => dblsTo_le s e)
  have hm1 := PairMap.made hI
  have HM := Lib.hid hm1
  have HE0 := Lib.hid ((Ev.refl hI).alloc (.map #[] 0))
  clear hI hp hs hok hE hm1
  go_enter Try.func54, Try.ntmps54
  go_wp2_with fail
  refine (HEd.out _ _ HE0.out).mono ?_
  rintro e w' ⟨rfl, rfl⟩
  go_wp2_with fail
  obtain ⟨w1, hw1⟩ : ∃ w1, w1 = w.alloc (.map #[] 0) := ⟨_, rfl⟩
  obtain ⟨b, hb⟩ : ∃ b, w.heap.size = b := ⟨_, rfl⟩
  have hbw : b < w1.heap.size := by rw [hw1, ← hb]; simp
  have HBW : Hid (w.heap.size ≤ b) := Lib.hid (by omega)
  rw [← hw1] at HM HE0 ⊢
  rw [hb] at HM ⊢
  clear hw1 hb hmm
  go_loopg [4, 12] E (fun gg v4 v12 wr => ∃ (e : Nat) (Re : Reg), e ≤ E ∧ E - e ≤ gg ∧ v4 = .int .i64 ((dblsTo s e : Nat) : Int) ∧ v12 = .int .i64 (e : Int) ∧ Ev R w Re wr ∧ PairMap Re wr b e (pcnt s e))
  case atStart => exact ⟨0, R, by omega, by omega, rfl, rfl, HE0.out, HM.out⟩
  case round =>
    obtain ⟨e, Re, he, hg, rfl, rfl, hev, hm⟩ := hrel
    have HE := Lib.hid hev
    have HMe := Lib.hid hm
    have hb := HLb.out e
    have HSu := Lib.hid (dblsTo_succ s e)
    obtain ⟨c, hc⟩ : ∃ c, dblsTo s e = c := ⟨_, rfl⟩
    rw [hc] at hb HSu ⊢
    have HC := Lib.hid hc
    clear hev hc hm
    by_cases heE : e < E
    · have hc1 := HVt.out Re wr HE.out (2 * e) (by omega)
      rw [show ((2 * e : Nat) : Int) = 2 * (e : Int) by omega] at hc1
      have hc2 := fun R' w' (he : Ev R w R' w') => HVt.out R' w' he (2 * e + 1) (by omega)
      rw [show ((2 * e + 1 : Nat) : Int) = 2 * (e : Int) + 1 by omega] at hc2
      have hx1 := HNb.out (2 * e) (by omega)
      have hy1 := HNb.out (2 * e + 1) (by omega)
      have hsz := HSz.out
      have hlb : loopB s e = (nth (namesL s) (2 * e) == nth (namesL s) (2 * e + 1)) := rfl
      have hlo : loN s e = if nth (namesL s) (2 * e) ≤ nth (namesL s) (2 * e + 1) then nth (namesL s) (2 * e) else nth (namesL s) (2 * e + 1) := rfl
      have hhi : hiN s e = if nth (namesL s) (2 * e) ≤ nth (namesL s) (2 * e + 1) then nth (namesL s) (2 * e + 1) else nth (namesL s) (2 * e) := rfl
      obtain ⟨x, hx⟩ : ∃ x, nth (namesL s) (2 * e) = x := ⟨_, rfl⟩
      obtain ⟨y, hy⟩ : ∃ x, nth (namesL s) (2 * e + 1) = x := ⟨_, rfl⟩
      rw [hx] at hc1 hlb hx1 hlo hhi
      rw [hy] at hc2 hlb hy1 hlo hhi
      have hx2 : x ≤ 131073 := by omega
      have hy2 : y ≤ 131073 := by omega
      have hx3 := hx1.1
      have hy3 := hy1.1
      have HC1 := Lib.hid hc1
      have HC2 := Lib.hid hc2
      have HLB := Lib.hid hlb
      have HLO := Lib.hid hlo
      have HHI := Lib.hid hhi
      clear hx hy hc1 hc2 hlb hx1 hy1 hsz hlo hhi
      go_wp2_with fail
      refine HC1.out.mono ?_
      rintro _ w2 ⟨rfl, R1, he1⟩
      have HE1 := Lib.hid (HE.out.trans he1)
      have HM1 := Lib.hid (HMe.out.ev he1)
      clear he1
      go_wp2_with fail
      refine (HC2.out R1 w2 HE1.out).mono ?_
      rintro _ w3 ⟨rfl, R2, he2⟩
      have HE2 := Lib.hid (HE1.out.trans he2)
      have HM2 := Lib.hid (HM1.out.ev he2)
      clear he2
      by_cases hxy : x = y
      · have heq : (x == y) = true := by rw [beq_iff_eq]; exact hxy
        have HS2 : Hid (dblsTo s (e + 1) = c) := Lib.hid (by rw [HSu.out, if_neg (by unfold dblB; rw [HLB.out, heq]; simp)]; rfl)
        have HP2 : Hid (pcnt s (e + 1) = pcnt s e) := Lib.hid (by show (if loopB s e = true then pcnt s e else _) = _; rw [HLB.out, heq]; rfl)
        clear hxy
        go_wp2_with fail
        go_roundg (E - (e + 1))
        case measure => omega
        case rel =>
          obtain ⟨q1, D, q2, q3⟩ := HM2.out
          exact ⟨e + 1, R2, by omega, by omega, by rw [HS2.out], by go_num, HE2.out, q1, D, q2.mono (by omega), by rw [HP2.out]; exact q3⟩
      · have heq : (x == y) = false := by rw [beq_eq_false_iff_ne]; exact hxy
        by_cases hle : x ≤ y
        · have elo : loN s e = x := by rw [HLO.out]; rw [if_pos hle]
          have ehi : hiN s e = y := by rw [HHI.out]; rw [if_pos hle]
          have hnl : ¬ loopB s e = true := by rw [HLB.out, heq]; simp
          have hdb := dblB_iff hnl
          have hcb := pcnt_bound s x y e
          have hpu : pcnt s (e + 1) = pairUp (pcnt s e) x y (pcnt s e x y + 1) := by
            show (if loopB s e = true then pcnt s e else _) = _
            rw [if_neg hnl, elo, ehi]
          rw [elo, ehi] at hdb
          obtain ⟨c0, hc0⟩ : ∃ c0, pcnt s e x y = c0 := ⟨_, rfl⟩
          have he4 := HE2.out.alloc (.cells #[.int .i64 x, .int .i64 y] 91)
          have hm4 := HM2.out.ev ((Ev.refl HE2.out.inv).alloc (.cells #[.int .i64 x, .int .i64 y] 91))
          have wlo : (Lit.int .i64 x).wf = true := WalkArith.wf_i64 (by omega)
          have whi : (Lit.int .i64 y).wf = true := WalkArith.wf_i64 (by omega)
          have wc : (Lit.int .i64 (pcnt s e x y + 1)).wf = true := WalkArith.wf_i64 (by omega)
          obtain ⟨_, _, _, _, hl1, _⟩ := hm4.bump (by unfold maxLen; omega) wlo whi wc
          obtain ⟨v0, stp, w5, w6, f1, f2, f3, f4, f5, f6⟩ := (hm4.ev ((Ev.refl he4.inv).drew)).bump (by unfold maxLen; omega) wlo whi wc
          rw [← hpu] at f5
          rw [hc0] at hcb hl1 f1 f3 f4 hdb
          have HP5 := Lib.hid f5
          have HE6 := Lib.hid (he4.drew.grown f6 (fun k e => by cases e; exact ⟨HBW.out, HM2.out.1⟩))
          have HDB := Lib.hid hdb
          unfold pairV at hl1 f1 f2 f3
          unfold goInt at f2 f4
          obtain ⟨hcb0, hcb1⟩ := hcb
          clear elo ehi hnl hdb hpu hc0 he4 hm4 wlo whi wc f5 f6
          by_cases hpos : 0 < c0
          · have HS2 : Hid (dblsTo s (e + 1) = c + 1) := Lib.hid (by rw [HSu.out, if_pos (HDB.out.2 hpos)])
            go_wp2_with fail
            go_region
            all_goals go_wp2_with fail
            all_goals go_roundg (E - (e + 1))
            all_goals first | omega | exact ⟨e + 1, R2, by omega, by omega, by rw [HS2.out]; go_num, by go_num, HE6.out, HP5.out⟩
          · have HS2 : Hid (dblsTo s (e + 1) = c) := Lib.hid (by rw [HSu.out, if_neg (fun h => hpos (HDB.out.1 h))]; rfl)
            go_wp2_with fail
            go_region
            all_goals go_wp2_with fail
            all_goals go_roundg (E - (e + 1))
            all_goals first | omega | exact ⟨e + 1, R2, by omega, by omega, by rw [HS2.out], by go_num, HE6.out, HP5.out⟩
        · have elo : loN s e = y := by rw [HLO.out]; rw [if_neg hle]
          have ehi : hiN s e = x := by rw [HHI.out]; rw [if_neg hle]
          have hnl : ¬ loopB s e = true := by rw [HLB.out, heq]; simp
          have hdb := dblB_iff hnl
          have hcb := pcnt_bound s y x e
          have hpu : pcnt s (e + 1) = pairUp (pcnt s e) y x (pcnt s e y x + 1) := by
            show (if loopB s e = true then pcnt s e else _) = _
            rw [if_neg hnl, elo, ehi]
          rw [elo, ehi] at hdb
          obtain ⟨c0, hc0⟩ : ∃ c0, pcnt s e y x = c0 := ⟨_, rfl⟩
          have he4 := HE2.out.alloc (.cells #[.int .i64 y, .int .i64 x] 91)
          have hm4 := HM2.out.ev ((Ev.refl HE2.out.inv).alloc (.cells #[.int .i64 y, .int .i64 x] 91))
          have wlo : (Lit.int .i64 y).wf = true := WalkArith.wf_i64 (by omega)
          have whi : (Lit.int .i64 x).wf = true := WalkArith.wf_i64 (by omega)
          have wc : (Lit.int .i64 (pcnt s e y x + 1)).wf = true := WalkArith.wf_i64 (by omega)
          obtain ⟨_, _, _, _, hl1, _⟩ := hm4.bump (by unfold maxLen; omega) wlo whi wc
          obtain ⟨v0, stp, w5, w6, f1, f2, f3, f4, f5, f6⟩ := (hm4.ev ((Ev.refl he4.inv).drew)).bump (by unfold maxLen; omega) wlo whi wc
          rw [← hpu] at f5
          rw [hc0] at hcb hl1 f1 f3 f4 hdb
          have HP5 := Lib.hid f5
          have HE6 := Lib.hid (he4.drew.grown f6 (fun k e => by cases e; exact ⟨HBW.out, HM2.out.1⟩))
          have HDB := Lib.hid hdb
          unfold pairV at hl1 f1 f2 f3
          unfold goInt at f2 f4
          obtain ⟨hcb0, hcb1⟩ := hcb
          clear elo ehi hnl hdb hpu hc0 he4 hm4 wlo whi wc f5 f6
          by_cases hpos : 0 < c0
          · have HS2 : Hid (dblsTo s (e + 1) = c + 1) := Lib.hid (by rw [HSu.out, if_pos (HDB.out.2 hpos)])
            go_wp2_with fail
            go_region
            all_goals go_wp2_with fail
            all_goals go_roundg (E - (e + 1))
            all_goals first | omega | exact ⟨e + 1, R2, by omega, by omega, by rw [HS2.out]; go_num, by go_num, HE6.out, HP5.out⟩
          · have HS2 : Hid (dblsTo s (e + 1) = c) := Lib.hid (by rw [HSu.out, if_neg (fun h => hpos (HDB.out.1 h))]; rfl)
            go_wp2_with fail
            go_region
            all_goals go_wp2_with fail
            all_goals go_roundg (E - (e + 1))
            all_goals first | omega | exact ⟨e + 1, R2, by omega, by omega, by rw [HS2.out], by go_num, HE6.out, HP5.out⟩
    · obtain rfl : e = E := by omega
      go_wp2_with fail
      go_ret
      exact ⟨ret_int (by rw [HA.out, HC.out]), Re, HE.out⟩

end Go.Proofs.Ytedocjhbmhllcaa
