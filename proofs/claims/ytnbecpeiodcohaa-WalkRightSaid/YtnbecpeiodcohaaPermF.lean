/- package perm: Back, with its memo. Conditions: permutations are registered. -/
import Derived.Test.YtnbecpeiodcohaaPermE
import Derived.Test.YtnbecpeiodcohaaOnce
namespace Go.Proofs.Ytnbecpeiodcohaa
open Go.RowKit
set_option linter.unusedVariables false

/-- all blocks but b are as they were -/
structure But (b : Nat) (w w' : World) : Prop where
  os : w'.os = w.os
  tape : w'.tape = w.tape
  output : w'.output = w.output
  size : w.heap.size ≤ w'.heap.size
  block : ∀ k, k < w.heap.size → k ≠ b → w'.heap[k]? = w.heap[k]?

theorem But.refl (b : Nat) (w : World) : But b w w := ⟨rfl, rfl, rfl, Nat.le_refl _, fun _ _ _ => rfl⟩
theorem But.trans {b : Nat} {w w1 w2 : World} (h : But b w w1) (k : But b w1 w2) : But b w w2 :=
  ⟨k.os.trans h.os, k.tape.trans h.tape, k.output.trans h.output, Nat.le_trans h.size k.size, fun i hi hb => (k.block i (Nat.lt_of_lt_of_le hi h.size) hb).trans (h.block i hi hb)⟩
theorem But.set {b : Nat} {w w1 : World} (h : But b w w1) (o : Nat) (u : Value) : But b w (w1.setCell ⟨b, o, none⟩ u) :=
  h.trans ⟨rfl, rfl, rfl, by simp, fun k _ hk => Below.heap_setCell _ _ _ _ hk⟩
theorem But.own {b : Nat} {w w1 : World} (h : But b w w1) {p : Addr} (hp : w.heap.size ≤ p.block) (u : Value) : But b w (w1.setCell p u) :=
  ⟨h.os, h.tape, h.output, by simpa using h.size, fun k hk hb => by rw [Below.heap_setCell _ _ _ _ (by omega)]; exact h.block k hk hb⟩
theorem But.drew {b : Nat} {w w1 : World} (h : But b w w1) : But b w w1.drew := ⟨h.os, h.tape, h.output, h.size, h.block⟩
theorem But.of_grown {b : Nat} {w w1 w2 : World} (h : But b w w1) (hg : w1.grownBy w2 none) : But b w w2 :=
  h.trans ⟨hg.os, hg.tape, hg.output, hg.size, fun k hk _ => hg.block k hk (by simp)⟩

theorem invGo_succ (s : List Nat) (k : Nat) : invGo s (k + 1) = (invGo s k).set (at' s k) k := by
  simp [invGo, List.range_succ]
theorem invGo_length (s : List Nat) (k : Nat) : (invGo s k).length = s.length := by
  induction k with
  | zero => simp [invGo]
  | succ k ih => rw [invGo_succ, List.length_set, ih]
theorem toI_set (s : List Nat) (i x : Nat) : toI (s.set i x) = (toI s).set i (x : Int) := by simp [toI]

/-- what the memo's maker leaves -/
def TurnQ (b T : Nat) (vto : Value) (s : List Nat) (W w' : World) : Prop :=
  But b W w' ∧ ∃ g, W.heap.size ≤ g ∧ w'.heap[b]? = some (.cells #[vto, .int .u32 0, .int .i32 1, .int .u32 0, .slice (some ⟨g, 0, none⟩) s.length s.length] T (0, 0)) ∧
    w'.heap[g]? = some (.cells ((toI (invL s)).map (Value.int .i64)).toArray 3 (0, 0))

set_option maxRecDepth 100000 in
set_option maxHeartbeats 1000000 in
theorem turn_any (b T : Nat) (a : Option Addr) (cap : Nat) (s : List Nat) (hS : IsPerm s) (hn : s.length ≤ 4194304) (W : World) (hb : W.heap[b]? = some (.cells #[.slice a s.length cap, .int .u32 0, .int .i32 1, .int .u32 0, .slice none 0 0] T (0, 0)))
    (hto : ∀ w', But b W w' → Ints w' (.slice a s.length cap) (toI s)) :
    Calls Try.prog 111 #[.pointer (some ⟨b, 0, none⟩)] W (OnceKept b 1 (TurnQ b T (.slice a s.length cap) s W)) := by
  obtain ⟨n, hl⟩ : ∃ n, s.length = n := ⟨_, rfl⟩
  have HL := Lib.hid hl
  rw [hl] at hb hto hn ⊢
  have hblt := lt_of_block hb
  have c0 : W.cell? ⟨b, 0, none⟩ = some (.slice a n cap) := by simp [World.cell?, hb]
  have HS := Lib.hid hS
  have HB := Lib.hid hb
  have HT := Lib.hid hto
  obtain ⟨i0, hi, hz0, hz1, hz2⟩ := info_parts int_info
  clear hS hb hto hl
  go_enter Try.func111, Try.ntmps111
  go_wp2_with (refine wpList_make_full _ rfl _ _ 25 rfl W.heap.size 3 i0 (.int .i64 0) 1 Try.underlying25 hi hz0 hz1 .i64 .i64 (n : Int) (n : Int) n rfl rfl rfl rfl ?q1 ?q2 (Nat.le_refl _) ?_)
  case q1 => rw [hz2]; omega
  case q2 => unfold maxLen; omega
  intro w1 ho1 hg1
  have hcur : w1.heap[W.heap.size]? = some (.cells ((toI (invGo s 0)).map (Value.int .i64)).toArray 3 (0, 0)) := by
    obtain ⟨h1, h2⟩ := ho1
    rcases h2 with ⟨h2, _⟩ | ⟨g, cap', cur, hv, hg, hh, hn', hm, hs, ht⟩
    · cases h2
    · cases hv
      rw [hh]
      have : cur.toList = List.replicate n (.int .i64 0) := by
        have hs' : cur.toList.length = n := by simpa using hs
        rw [List.take_of_length_le (by omega)] at ht
        rw [ht]
        simpa using toList_madeCells_one (.int .i64 0) n
      have h2 : cur = (List.replicate n (Value.int .i64 0)).toArray := by rw [← this]
      rw [h2]
      simp [invGo, toI, HL.out]
  have hbt : But b W w1 := (But.refl b W).of_grown hg1
  have hb1 : w1.heap[b]? = some (.cells #[.slice a n cap, .int .u32 0, .int .i32 1, .int .u32 0, .slice none 0 0] T (0, 0)) := (hg1.block b hblt (by simp)).trans HB.out
  have c4 : w1.cell? ⟨b, 4, none⟩ = some (.slice none 0 0) := by simp [World.cell?, hb1]
  have z4 : w1.frozen? ⟨b, 4, none⟩ = false := by simp [World.frozen?, hb1]
  have HCUR := Lib.hid hcur
  have HBT := Lib.hid hbt
  have HB1 := Lib.hid hb1
  clear ho1 hg1 hcur hbt hb1 c0
  have c0' : w1.cell? ⟨b, 0, none⟩ = some (.slice a n cap) := by simp [World.cell?, HB1.out]
  go_wp2_with fail
  have hb2 : (w1.setCell ⟨b, 4, none⟩ (.slice (some ⟨W.heap.size, 0, none⟩) n n)).heap[b]? = some (.cells #[.slice a n cap, .int .u32 0, .int .i32 1, .int .u32 0, .slice (some ⟨W.heap.size, 0, none⟩) n n] T (0, 0)) := by
    rw [heap_setCell_same _ _ _ _ _ _ HB1.out]; rfl
  have hc2 : (w1.setCell ⟨b, 4, none⟩ (.slice (some ⟨W.heap.size, 0, none⟩) n n)).heap[W.heap.size]? = some (.cells ((toI (invGo s 0)).map (Value.int .i64)).toArray 3 (0, 0)) := by
    rw [Below.heap_setCell _ _ _ _ (by simp; omega)]; exact HCUR.out
  have HB2 := Lib.hid hb2
  have HC2 := Lib.hid hc2
  clear hb2 hc2 c4 z4 c0'
  go_loopg [18] n (fun g v18 wr => ∃ k : Nat, k ≤ n ∧ n - k ≤ g ∧ v18 = .int .i64 (k : Int) ∧ wr.heap[W.heap.size]? = some (.cells ((toI (invGo s k)).map (Value.int .i64)).toArray 3 (0, 0)) ∧
    wr.heap[b]? = some (.cells #[.slice a n cap, .int .u32 0, .int .i32 1, .int .u32 0, .slice (some ⟨W.heap.size, 0, none⟩) n n] T (0, 0)) ∧ But b W wr)
  case atStart => exact ⟨0, Nat.zero_le _, by omega, rfl, HC2.out, HB2.out, HBT.out.set _ _⟩
  case round =>
    obtain ⟨k, hk, hg, rfl, hcu, hbb, hbe⟩ := hrel
    have HCU := Lib.hid hcu
    have HBB := Lib.hid hbb
    have HBE := Lib.hid hbe
    clear hcu hbb hbe
    by_cases hkn : k < n
    · obtain ⟨b', off, rfl, hc⟩ := (HT.out wr HBE.out).cell (i := k) (by rw [toI_length, HL.out]; exact hkn)
      rw [toI_nth] at hc
      have hx : at' s k < n := by have := HS.out.lt (i := k) (by rw [HL.out]; exact hkn); rw [HL.out] at this; exact this
      obtain ⟨x, hxe⟩ : ∃ x, at' s k = x := ⟨_, rfl⟩
      rw [hxe] at hx hc
      have HX := Lib.hid hxe
      have c4 : wr.cell? ⟨b, 4, none⟩ = some (.slice (some ⟨W.heap.size, 0, none⟩) n n) := by simp [World.cell?, HBB.out]
      have cx : wr.cell? ⟨W.heap.size, x, none⟩ = some (.int .i64 (nth (toI (invGo s k)) x)) := by
        unfold World.cell?
        rw [HCU.out]
        have : x < (toI (invGo s k)).length := by rw [toI_length, invGo_length, HL.out]; exact hx
        simp [nth, this]
      have zx : wr.frozen? ⟨W.heap.size, x, none⟩ = false := by simp [World.frozen?, HCU.out]
      clear hxe
      go_wp2_with fail
      have hc3 : (wr.setCell ⟨W.heap.size, x, none⟩ (.int .i64 (k : Int))).heap[W.heap.size]? = some (.cells ((toI (invGo s (k + 1))).map (Value.int .i64)).toArray 3 (0, 0)) := by
        rw [heap_setCell_same _ _ _ _ _ _ HCU.out, invGo_succ, toI_set, HX.out]
        simp
      have hb3 : (wr.setCell ⟨W.heap.size, x, none⟩ (.int .i64 (k : Int))).heap[b]? = some (.cells #[.slice (some ⟨b', off, none⟩) n cap, .int .u32 0, .int .i32 1, .int .u32 0, .slice (some ⟨W.heap.size, 0, none⟩) n n] T (0, 0)) := by
        rw [Below.heap_setCell _ _ _ _ (by simp; omega)]; exact HBB.out
      have HC3 := Lib.hid hc3
      have HB3 := Lib.hid hb3
      clear hc3 hb3 c4 cx zx hc
      go_roundg (n - (k + 1))
      case measure => omega
      case rel => exact ⟨k + 1, by omega, by omega, by go_num, HC3.out, HB3.out, HBE.out.own (Nat.le_refl _) _⟩
    · obtain rfl : k = n := by omega
      go_wp2_with fail
      go_end0
      have hb := HBB.out
      refine ⟨rfl, ⟨HBE.out, W.heap.size, Nat.le_refl _, ?_, ?_⟩, ?_, ?_, ?_, ?_⟩
      · rw [HL.out]; exact hb
      · have := HCU.out; rw [← HL.out] at this; exact this
      all_goals simp [World.cell?, World.frozen?, hb]

/-- a memo is laid: one registered block turns, new blocks are registered -/
theorem Ev.memo {R R1 : Reg} {w w' : World} {b : Nat} {r : Kind} (hI : Inv R w) (hb : R b = some r) (hbt : But b w w') (hk : ∀ k x, R k = some x → R1 k = some x) (hf : ∀ k, k < w.heap.size → R k = none → R1 k = none)
    (hn : ∀ k x, R1 k = some x → (R k = some x ∧ k ≠ b) ∨ KindOk R1 w' k x) : Ev R w R1 w' :=
  ⟨hbt.os, hbt.tape, hbt.output, hbt.size, fun k hlt hr => hbt.block k hlt (fun e => by rw [e, hb] at hr; cases hr), hk, hf, fun k x hx => by
    rcases hn k x hx with ⟨h1, h2⟩ | h
    · exact (hI k x h1).mono hk (hbt.block k (hI k x h1).lt h2)
    · exact h⟩

def RetV (R : Reg) (w : World) (v : Value) (e : Ending) (w' : World) : Prop := e = .returned v ∧ ∃ R', Ev R w R' w'

def backI (s : List Nat) (i : Int) : Int := if 0 ≤ i ∧ i < s.length then ((at' (invL s) i.toNat : Nat) : Int) else -1
theorem backI_out {s : List Nat} {i : Int} (h : i < 0 ∨ (s.length : Int) ≤ i) : backI s i = -1 := by
  unfold backI; rw [if_neg (by omega)]
theorem backI_in {s : List Nat} {i : Nat} (h : i < s.length) : backI s (i : Int) = ((at' (invL s) i : Nat) : Int) := by
  unfold backI; rw [if_pos (by omega)]; simp

theorem makeFunc_run (fn : Fn) (first cap : Array Value) (w : World) : (Instr.makeFunc fn first cap).run Try.prog w = .ok (.func fn first cap) w := rfl

/-- what Do leaves at a permutation's memo -/
theorem turn_done {R : Reg} {w : World} (hI : Inv R w) {b : Nat} {s : List Nat} (hb : R b = some (.inr (.inl s))) {T : Nat} {vto : Value} (hto : FixI R vto (toI s))
    (hw : w.heap[b]? = some (.cells #[vto, .int .u32 0, .int .i32 0, .int .u32 0, .slice none 0 0] T (0, 0))) {w2 : World} (hq : TurnQ b T vto s (w.setCell ⟨b, 1 + 1, none⟩ (.int .i32 1)) w2) :
    ∃ R' vf, Ev R w R' ((w2.drew.setCell ⟨b, 1, none⟩ (.int .u32 1)).setCell ⟨b, 1 + 1, none⟩ (.int .i32 0)) ∧ FixI R' vf (toI (invL s)) ∧
      ((w2.drew.setCell ⟨b, 1, none⟩ (.int .u32 1)).setCell ⟨b, 1 + 1, none⟩ (.int .i32 0)).cell? ⟨b, 4, none⟩ = some vf := by
  obtain ⟨hbt, g, hg, h1, h2⟩ := hq
  simp only [World.size_setCell] at hg
  obtain ⟨hS, hn, _⟩ := hI _ _ hb
  have hlt := lt_of_block hw
  have hnone : R g = none := hI.none_of_ge hg
  have hbt' : But b w ((w2.drew.setCell ⟨b, 1, none⟩ (.int .u32 1)).setCell ⟨b, 1 + 1, none⟩ (.int .i32 0)) := ((((But.refl b w).set _ _).trans hbt).drew.set _ _).set _ _
  have hnew : ((w2.drew.setCell ⟨b, 1, none⟩ (.int .u32 1)).setCell ⟨b, 1 + 1, none⟩ (.int .i32 0)).heap[b]? = some (.cells #[vto, .int .u32 1, .int .i32 0, .int .u32 0, .slice (some ⟨g, 0, none⟩) s.length s.length] T (0, 0)) := by
    have e1 : (w2.drew.setCell ⟨b, 1, none⟩ (.int .u32 1)).heap[b]? = some (.cells #[vto, .int .u32 1, .int .i32 1, .int .u32 0, .slice (some ⟨g, 0, none⟩) s.length s.length] T (0, 0)) :=
      heap_setCell_same w2.drew b 1 _ _ _ h1
    exact heap_setCell_same _ b 2 _ _ _ e1
  have hgb : g ≠ b := by omega
  have hgd : ((w2.drew.setCell ⟨b, 1, none⟩ (.int .u32 1)).setCell ⟨b, 1 + 1, none⟩ (.int .i32 0)).heap[g]? = some (.cells ((toI (invL s)).map (Value.int .i64)).toArray 3 (0, 0)) := by
    rw [Below.heap_setCell _ _ _ _ (by simpa using hgb), Below.heap_setCell _ _ _ _ (by simpa using hgb)]
    exact h2
  have hfin : FixI (R.put g (.inl (.cells ((toI (invL s)).map (Value.int .i64)).toArray 3 (0, 0)))) (.slice (some ⟨g, 0, none⟩) s.length s.length) (toI (invL s)) := by
    have hlen : (toI (invL s)).length = s.length := by rw [toI_length]; unfold invL; rw [invGo_length]
    refine ⟨some ⟨g, 0, none⟩, s.length, by rw [hlen], by rw [hlen]; exact Nat.le_refl _, by unfold maxLen; omega, fun i hi => ?_⟩
    refine ⟨g, 0, _, _, _, rfl, Reg.put_same _ _ _, ?_⟩
    simp [nth, hi]
  refine ⟨R.put g (.inl (.cells ((toI (invL s)).map (Value.int .i64)).toArray 3 (0, 0))), _, Ev.memo hI hb hbt' (Reg.put_keeps _ hnone) (fun k hk hr => ?_) (fun k x hx => ?_), hfin, by simp [World.cell?, hnew]⟩
  · unfold Reg.put; rw [if_neg (by omega)]; exact hr
  · by_cases hkb : k = b
    · subst hkb
      have : x = .inr (.inl s) := by
        unfold Reg.put at hx
        rw [if_neg (fun e => hgb e.symm), hb] at hx
        exact (Option.some.inj hx).symm
      subst this
      exact Or.inr ⟨hS, hn, vto, T, 1, _, hnew, hto.mono (Reg.put_keeps _ hnone), Or.inr ⟨rfl, hfin⟩⟩
    · by_cases hkg : k = g
      · subst hkg
        rw [Reg.put_same] at hx
        cases hx
        exact Or.inr hgd
      · unfold Reg.put at hx
        rw [if_neg hkg] at hx
        exact Or.inl ⟨hx, hkb⟩

set_option maxRecDepth 100000 in
set_option maxHeartbeats 1000000 in
theorem back_any (R : Reg) (w : World) (hI : Inv R w) (p : Value) (s : List Nat) (hp : PermAt R p s) (i : Int) :
    Calls Try.prog 125 #[p, .int .i64 i] w (RetV R w (.int .i64 (backI s i))) := by
  have HL := Lib.hid (len_any R w hI p s hp)
  have hmf := makeFunc_run
  obtain ⟨b, rfl, hb⟩ := hp
  by_cases h0 : i < 0
  · have HA := Lib.hid (backI_out (s := s) (Or.inl h0))
    have HI := Lib.hid hI
    clear hI hb
    go_enter Try.func125, Try.ntmps125
    go_wp2_with fail
    go_ret
    exact ⟨ret_int HA.out.symm, R, Ev.refl HI.out⟩
  · by_cases h1 : (s.length : Int) ≤ i
    · have HA := Lib.hid (backI_out (s := s) (Or.inr h1))
      have HI := Lib.hid hI
      clear hI hb
      go_enter Try.func125, Try.ntmps125
      go_wp2_with (go_at_call 76; refine HL.out.mono ?_; rintro e w' ⟨rfl, rfl⟩)
      go_ret
      exact ⟨ret_int HA.out.symm, R, Ev.refl HI.out⟩
    · obtain ⟨k, rfl⟩ := Int.eq_ofNat_of_zero_le (show 0 ≤ i by omega)
      have hk : k < s.length := by omega
      have HA := Lib.hid (backI_in hk)
      have h2 : decide (s.length ≤ k) = false := by simp; omega
      have h3 : ¬ ((k : Int) < 0) := by omega
      obtain ⟨hS, hn, vto, T, d, vf, ho, hfx, hd⟩ := hI _ _ hb
      have HI := Lib.hid hI
      have HB := Lib.hid hb
      have HO := Lib.hid ho
      clear h0 h1 hI hb
      rcases hd with ⟨rfl, rfl⟩ | ⟨rfl, hvf⟩
      · obtain ⟨a, cap, rfl, _⟩ := id hfx
        rw [toI_length] at HO
        have hfx' : FixI R (.slice a s.length cap) (toI s) := by rw [toI_length] at hfx; exact hfx
        have HF := Lib.hid hfx'
        have c1 : w.cell? ⟨b, 1, none⟩ = some (.int .u32 0) := by simp [World.cell?, HO.out]
        have c2 : w.cell? ⟨b, 1 + 1, none⟩ = some (.int .i32 0) := by simp [World.cell?, HO.out]
        have z1 : w.frozen? ⟨b, 1, none⟩ = false := by simp [World.frozen?, HO.out]
        have z2 : w.frozen? ⟨b, 1 + 1, none⟩ = false := by simp [World.frozen?, HO.out]
        have hW : (w.setCell ⟨b, 1 + 1, none⟩ (.int .i32 1)).heap[b]? = some (.cells #[.slice a s.length cap, .int .u32 0, .int .i32 1, .int .u32 0, .slice none 0 0] T (0, 0)) :=
          heap_setCell_same w b 2 _ _ _ HO.out
        have htn := turn_any b T a cap s hS hn _ hW (fun w' hbt => by
          obtain ⟨a', cap', e1, e2, e3, e4⟩ := HF.out
          refine ⟨a', cap', e1, e2, e3, fun j hj => ?_⟩
          obtain ⟨b', off, c, T', f, e5, e6, e7⟩ := e4 j hj
          have hbb : b' ≠ b := fun e => by rw [e, HB.out] at e6; cases e6
          have hh : w.heap[b']? = some (.cells c T' f) := HI.out _ _ e6
          have hh' : w'.heap[b']? = some (.cells c T' f) := by
            rw [hbt.block b' (by simpa using lt_of_block hh) hbb, Below.heap_setCell _ _ _ _ hbb]
            exact hh
          exact ⟨b', off, e5, by simp [World.cell?, hh', e7]⟩)
        have hdo := do_turn b 1 (.pointer (some ⟨b, 0, none⟩)) w c1 c2 z1 z2 _ htn
        have HD := Lib.hid hdo
        clear hfx hfx' c1 c2 z1 z2 hW htn hdo ho
        go_enter Try.func125, Try.ntmps125
        go_wp2_with (go_at_call 76; refine HL.out.mono ?_; rintro e w' ⟨rfl, rfl⟩)
        refine HD.out.mono ?_
        rintro e w3 ⟨rfl, w2, hq, hw3⟩
        obtain ⟨R', vf, he, hvf, c4⟩ := turn_done HI.out HB.out HF.out HO.out hq
        rw [← hw3] at he c4
        obtain ⟨a', cap', rfl, _⟩ := id hvf
        rw [toI_length, show (invL s).length = s.length from invGo_length _ _] at c4 hvf
        obtain ⟨b', off, rfl, hc⟩ := hvf.cell he.inv (i := k) (by rw [show (invL s).length = s.length from invGo_length _ _]; exact hk)
        have HE := Lib.hid he
        clear hvf he hq hw3
        go_wp2_with fail
        go_ret
        exact ⟨ret_int HA.out.symm, R', HE.out⟩
      · obtain ⟨a', cap', rfl, _⟩ := id hvf
        rw [toI_length, show (invL s).length = s.length from invGo_length _ _] at hvf HO
        obtain ⟨b', off, rfl, hc⟩ := hvf.cell HI.out (i := k) (by rw [show (invL s).length = s.length from invGo_length _ _]; exact hk)
        have c1 : w.cell? ⟨b, 1, none⟩ = some (.int .u32 1) := by simp [World.cell?, HO.out]
        have c4 : w.cell? ⟨b, 4, none⟩ = some (.slice (some ⟨b', off, none⟩) s.length cap') := by simp [World.cell?, HO.out]
        have hdo := do_done ⟨b, 1, none⟩ (.func (.func 111) #[.pointer (some ⟨b, 0, none⟩)] #[]) w c1
        have HD := Lib.hid hdo
        clear hfx hvf hdo c1 ho
        go_enter Try.func125, Try.ntmps125
        go_wp2_with (first | (go_at_call 76; refine HL.out.mono ?_; rintro e w' ⟨rfl, rfl⟩) | (go_at_call 110; refine HD.out.mono ?_; rintro e w' ⟨rfl, rfl⟩))
        go_ret
        exact ⟨ret_int HA.out.symm, R, Ev.refl HI.out⟩

end Go.Proofs.Ytnbecpeiodcohaa
