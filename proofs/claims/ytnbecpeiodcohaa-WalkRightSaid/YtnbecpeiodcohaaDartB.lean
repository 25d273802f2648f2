/- package dart: names.name, names.count. Conditions: the map is registered. -/
import Derived.Test.YtnbecpeiodcohaaDartA
namespace Go.Proofs.Ytnbecpeiodcohaa
open Go.RowKit
set_option linter.unusedVariables false

theorem OwnI.fixR {R1 : Reg} {w1 : World} {B : Nat} {E : TypeId} {v : Value} {xs : List Int} (h : OwnI R1 B E w1 v xs) :
    ∃ R2, FixI R2 v xs ∧ (∀ k r, R1 k = some r → R2 k = some r) ∧ (∀ k, R1 k = none → v.ownBlock ≠ some k → R2 k = none) ∧
      (∀ k r, R2 k = some r → R1 k = some r ∨ (v.ownBlock = some k ∧ ∃ o, r = .inl o ∧ w1.heap[k]? = some o)) := by
  obtain ⟨⟨h1, h2⟩, h3⟩ := h
  rcases h2 with ⟨h2, hn⟩ | ⟨g, cap, cur, hv, hg, hh, hn, hm, hs, ht⟩
  · have : xs = [] := List.length_eq_zero_iff.1 hn
    subst this
    exact ⟨R1, ⟨none, 0, h2, Nat.le_refl _, by simp [maxLen], fun i hi => by simp at hi⟩, fun _ _ h => h, fun _ h _ => h, fun _ _ h => Or.inl h⟩
  · have hnn := h3 g (by rw [hv]; rfl)
    refine ⟨R1.put g (.inl (.cells cur E (0, 0))), ⟨_, cap, hv, hn, hm, fun i hi => ?_⟩, Reg.put_keeps _ hnn, fun k hk hne => ?_, fun k r hr => ?_⟩
    · refine ⟨g, 0, cur, E, (0, 0), rfl, Reg.put_same _ _ _, ?_⟩
      have hx : (xs.map (Value.int .i64))[i]? = some (.int .i64 (nth xs i)) := by simp [nth, hi]
      rw [← ht, List.getElem?_take] at hx
      split at hx
      · simpa using hx
      · cases hx
    · unfold Reg.put
      rw [if_neg (fun e => hne (by rw [hv, e]; rfl))]
      exact hk
    · unfold Reg.put at hr
      split at hr
      · rename_i e
        cases hr
        subst e
        exact Or.inr ⟨by rw [hv]; rfl, _, rfl, hh⟩
      · exact Or.inl hr

/-- the two halves of a map: where they lie, and whose orbits they name -/
def Half (s : List Nat) (off : Nat) (t : List Nat) : Prop := (off = 0 ∧ t = s) ∨ (off = 6 ∧ t = phiL s)

/-- one half's cells -/
theorem Inv.halfCells {R : Reg} {w : World} (hI : Inv R w) {b : Nat} {s : List Nat} {root lone : Int} (h : R b = some (.inr (.inr (s, root, lone)))) {off : Nat} {t : List Nat} (ht : Half s off t) :
    IsPerm t ∧ t.length = s.length ∧ s.length ≤ 4194304 ∧ ∃ T cs pb d v1 v2, w.heap[b]? = some (.cells cs T (0, 0)) ∧ R pb = some (.inr (.inl t)) ∧ cs[off]? = some (.pointer (some ⟨pb, 0, none⟩)) ∧
      cs[off + 1]? = some (.int .u32 d) ∧ cs[off + 2]? = some (.int .i32 0) ∧ cs[off + 3]? = some (.int .u32 0) ∧ cs[off + 4]? = some v1 ∧ cs[off + 5]? = some v2 ∧ NamesOk R t d v1 v2 := by
  obtain ⟨h1, h2, h2', bp, bq, T, d, e, v1, v2, u1, u2, ho, h3, h4, h5, h6⟩ := hI _ _ h
  rcases ht with ⟨rfl, rfl⟩ | ⟨rfl, rfl⟩
  · exact ⟨h1, rfl, h2, T, _, bp, d, v1, v2, ho, h3, rfl, rfl, rfl, rfl, rfl, rfl, h5⟩
  · obtain ⟨h7, h8, _⟩ := hI _ _ h4
    exact ⟨h7, by simp [phiL], h2, T, _, bq, e, u1, u2, ho, h4, rfl, rfl, rfl, rfl, rfl, rfl, h6⟩

theorem setIf_same (cs : Array Value) (i : Nat) (v : Value) (h : cs[i]? = some v) : cs.setIfInBounds i v = cs := by
  refine Array.ext (by simp) fun j h1 h2 => ?_
  rw [Array.getElem_setIfInBounds]
  split
  · rename_i e; subst e; exact (Array.getElem?_eq_some_iff.1 h).2.symm
  · rfl

set_option maxHeartbeats 400000 in
/-- what Do leaves at a half's memo -/
theorem tell_done {R : Reg} {w : World} (hI : Inv R w) {b : Nat} {s : List Nat} {root lone : Int} (hb : R b = some (.inr (.inr (s, root, lone)))) {off : Nat} {t : List Nat} (ht : Half s off t) {T : Nat} {cs : Array Value}
    (hw : w.heap[b]? = some (.cells cs T (0, 0))) (h0 : cs[off + 1]? = some (.int .u32 0)) {w2 : World}
    (hq : TellQ (R.del b) b off T (cs.setIfInBounds (off + 2) (.int .i32 1)) t (w.setCell ⟨b, off + 1 + 1, none⟩ (.int .i32 1)) w2) :
    ∃ R' v1 v2, Ev R w R' ((w2.drew.setCell ⟨b, off + 1, none⟩ (.int .u32 1)).setCell ⟨b, off + 1 + 1, none⟩ (.int .i32 0)) ∧ FixI R' v1 (namesL t) ∧ FixI R' v2 (sizesL t) ∧
      ((w2.drew.setCell ⟨b, off + 1, none⟩ (.int .u32 1)).setCell ⟨b, off + 1 + 1, none⟩ (.int .i32 0)).cell? ⟨b, off + 4, none⟩ = some v1 ∧
      ((w2.drew.setCell ⟨b, off + 1, none⟩ (.int .u32 1)).setCell ⟨b, off + 1 + 1, none⟩ (.int .i32 0)).cell? ⟨b, off + 5, none⟩ = some v2 := by
  obtain ⟨he, v1, v2, hb2, ho1, ho2, hd⟩ := hq
  simp only [World.size_setCell] at ho1 ho2
  have hblt := lt_of_block hw
  obtain ⟨R1, hf1, hk1, hn1, hr1⟩ := ho1.fixR
  have ho2' : OwnI R1 w.heap.size 3 w2 v2 (sizesL t) := ⟨ho2.1, fun k hk => hn1 k (ho2.2 k hk) (fun e => hd k e hk)⟩
  obtain ⟨R2, hf2, hk2, hn2, hr2⟩ := ho2'.fixR
  have hb1 : R1 b = none := hn1 b (Reg.del_same R b) (fun e => by have := ho1.lt b e; omega)
  have hbb : R2 b = none := hn2 b hb1 (fun e => by have := ho2.lt b e; omega)
  have hkk := Reg.put_keeps (b := b) (.inr (.inr (s, root, lone))) hbb
  have hup : ∀ k r, R.del b k = some r → R2.put b (.inr (.inr (s, root, lone))) k = some r := fun k r h => hkk k r (hk2 k r (hk1 k r h))
  have hnew : ((w2.drew.setCell ⟨b, off + 1, none⟩ (.int .u32 1)).setCell ⟨b, off + 1 + 1, none⟩ (.int .i32 0)).heap[b]? =
      some (.cells ((((((cs.setIfInBounds (off + 2) (.int .i32 1)).setIfInBounds (off + 4) v1).setIfInBounds (off + 5) v2).setIfInBounds (off + 1) (.int .u32 1))).setIfInBounds (off + 1 + 1) (.int .i32 0)) T (0, 0)) := by
    have e1 := heap_setCell_same w2.drew b (off + 1) _ T (.int .u32 1) hb2
    exact heap_setCell_same _ b (off + 1 + 1) _ T (.int .i32 0) e1
  have hother : ∀ k, k ≠ b → ((w2.drew.setCell ⟨b, off + 1, none⟩ (.int .u32 1)).setCell ⟨b, off + 1 + 1, none⟩ (.int .i32 0)).heap[k]? = w2.heap[k]? := fun k hk => by
    rw [Below.heap_setCell _ _ _ _ hk, Below.heap_setCell _ _ _ _ hk]; rfl
  have hsz : w.heap.size ≤ w2.heap.size := by have := he.size; simpa using this
  obtain ⟨h1, h2, h2', bp, bq, T', d, e, x1, x2, u1, u2, ho, h3, h4, h5, h6⟩ := hI _ _ hb
  rw [hw] at ho
  cases ho
  have hnb : ∀ q r, R q = some (.inr (.inl r)) → R2.put b (.inr (.inr (s, root, lone))) q = some (.inr (.inl r)) := fun q r e => by
    refine hup q _ ?_
    rw [Reg.del_other R (fun e' => by rw [e', hb] at e; cases e)]
    exact e
  have hnames : ∀ r d u v, NamesOk R r d u v → NamesOk (R2.put b (.inr (.inr (s, root, lone)))) r d u v := fun r d u v hn => by
    rcases hn with hn | ⟨a1, a2, a3⟩
    · exact Or.inl hn
    · exact Or.inr ⟨a1, (a2.del hb).mono hup, (a3.del hb).mono hup⟩
  have hF1 : FixI (R2.put b (.inr (.inr (s, root, lone)))) v1 (namesL t) := (hf1.mono hk2).mono hkk
  have hF2 : FixI (R2.put b (.inr (.inr (s, root, lone)))) v2 (sizesL t) := hf2.mono hkk
  have hkind : KindOk (R2.put b (.inr (.inr (s, root, lone)))) ((w2.drew.setCell ⟨b, off + 1, none⟩ (.int .u32 1)).setCell ⟨b, off + 1 + 1, none⟩ (.int .i32 0)) b (.inr (.inr (s, root, lone))) := by
    rcases ht with ⟨rfl, rfl⟩ | ⟨rfl, rfl⟩
    · exact ⟨h1, h2, h2', bp, bq, T, 1, e, v1, v2, u1, u2, hnew, hnb _ _ h3, hnb _ _ h4, Or.inr ⟨rfl, hF1, hF2⟩, hnames _ _ _ _ h6⟩
    · exact ⟨h1, h2, h2', bp, bq, T, d, 1, x1, x2, v1, v2, hnew, hnb _ _ h3, hnb _ _ h4, hnames _ _ _ _ h5, Or.inr ⟨rfl, hF1, hF2⟩⟩
  refine ⟨R2.put b (.inr (.inr (s, root, lone))), v1, v2, ⟨he.os, he.tape, he.output, by simpa using hsz, fun k hk hr => ?_, fun k r hr => ?_, fun k hk hr => ?_, fun k x hx => ?_⟩, hF1, hF2, ?_, ?_⟩
  · have hkb : k ≠ b := fun e => by rw [e, hb] at hr; cases hr
    rw [hother k hkb, he.block k (by simpa using hk) (by rw [Reg.del_other R hkb]; exact hr) hkb, Below.heap_setCell _ _ _ _ hkb]
  · by_cases hkb : k = b
    · subst hkb
      rw [Reg.put_same]
      rw [hb] at hr
      exact hr
    · exact hup k r (by rw [Reg.del_other R hkb]; exact hr)
  · have hkb : k ≠ b := fun e => by rw [e, hb] at hr; cases hr
    unfold Reg.put
    rw [if_neg hkb]
    exact hn2 k (hn1 k (by rw [Reg.del_other R hkb]; exact hr) (fun e => by have := ho1.lt k e; omega)) (fun e => by have := ho2.lt k e; omega)
  · by_cases hkb : k = b
    · subst hkb
      rw [Reg.put_same] at hx
      cases hx
      exact hkind
    · unfold Reg.put at hx
      rw [if_neg hkb] at hx
      rcases hr2 k x hx with h | ⟨_, o, rfl, ho⟩
      · rcases hr1 k x h with h | ⟨_, o, rfl, ho⟩
        · exact (he.inv k x h).mono hup (hother k hkb)
        · exact (hother k hkb).trans ho
      · exact (hother k hkb).trans ho
  · rcases ht with ⟨rfl, rfl⟩ | ⟨rfl, rfl⟩ <;> simp [World.cell?, hnew]
  · rcases ht with ⟨rfl, rfl⟩ | ⟨rfl, rfl⟩ <;> simp [World.cell?, hnew]

/-- behind the memo's making: it stands -/
def Told (R : Reg) (w : World) (b off : Nat) (t : List Nat) (w' : World) : Prop :=
  ∃ R' a1 c1 a2 c2, Ev R w R' w' ∧ FixI R' (.slice a1 t.length c1) (namesL t) ∧ FixI R' (.slice a2 (sizesL t).length c2) (sizesL t) ∧
    w'.cell? ⟨b, off + 4, none⟩ = some (.slice a1 t.length c1) ∧ w'.cell? ⟨b, off + 5, none⟩ = some (.slice a2 (sizesL t).length c2)

def DoTold (R : Reg) (w : World) (b off : Nat) (t : List Nat) (e : Ending) (w' : World) : Prop := e = .returned (.tuple #[]) ∧ Told R w b off t w'

theorem Told.mk {R R' : Reg} {w w' : World} {b off : Nat} {t : List Nat} {v1 v2 : Value} (he : Ev R w R' w') (h1 : FixI R' v1 (namesL t)) (h2 : FixI R' v2 (sizesL t))
    (c4 : w'.cell? ⟨b, off + 4, none⟩ = some v1) (c5 : w'.cell? ⟨b, off + 5, none⟩ = some v2) : Told R w b off t w' := by
  obtain ⟨a1, p1, rfl, _⟩ := id h1
  obtain ⟨a2, p2, rfl, _⟩ := id h2
  rw [namesL_length] at h1 c4
  exact ⟨R', a1, p1, a2, p2, he, h1, h2, c4, c5⟩

/-- 'once.Do(n.tell)' at one half of a map -/
theorem do_told (R : Reg) (w : World) (hI : Inv R w) (b : Nat) (s : List Nat) (root lone : Int) (hb : R b = some (.inr (.inr (s, root, lone)))) (off : Nat) (t : List Nat) (ht : Half s off t) :
    Calls Try.prog 110 #[.pointer (some ⟨b, off + 1, none⟩), .func (.func 117) #[.pointer (some ⟨b, off, none⟩)] #[]] w (DoTold R w b off t) := by
  obtain ⟨hT, hlen, hn, T, cs, pb, d, v1, v2, hw, hp, k0, k1, k2, k3, k4, k5, hd⟩ := hI.halfCells hb ht
  rcases hd with ⟨rfl, rfl, rfl⟩ | ⟨rfl, hf1, hf2⟩
  · have hpb : pb ≠ b := fun e => by rw [e, hb] at hp; cases hp
    have hW := heap_setCell_same w b (off + 1 + 1) cs T (.int .i32 1) hw
    have hI' : Inv (R.del b) (w.setCell ⟨b, off + 1 + 1, none⟩ (.int .i32 1)) := hI.del hb ((But.refl b w).set _ _)
    have htell := tell_any (R.del b) b off T pb (cs.setIfInBounds (off + 2) (.int .i32 1)) t _ hI' (Reg.del_same R b) (by rw [Reg.del_other R hpb]; exact hp) (by omega) hT hW
      (by rw [Array.getElem?_setIfInBounds_ne (by omega)]; exact k0) (by rw [Array.getElem?_setIfInBounds_ne (by omega)]; exact k4) (by rw [Array.getElem?_setIfInBounds_ne (by omega)]; exact k5)
      (by rw [Array.getElem?_setIfInBounds_ne (by omega)]; exact k1) (by rw [Array.getElem?_setIfInBounds_self_of_lt (Array.getElem?_eq_some_iff.1 k2).1])
    refine (do_tell b (off + 1) (.pointer (some ⟨b, off, none⟩)) w (by rw [cells_at hw]; exact k1) (by rw [cells_at hw]; exact k2) (free_at hw _) (free_at hw _) _ htell).mono ?_
    rintro e w' ⟨rfl, w2, hq, rfl⟩
    obtain ⟨R', v1, v2, he, h1, h2, c4, c5⟩ := tell_done hI hb ht hw k1 hq
    exact ⟨rfl, Told.mk he h1 h2 c4 c5⟩
  · refine (do_done ⟨b, off + 1, none⟩ _ w (by rw [cells_at hw]; exact k1)).mono ?_
    rintro e w' ⟨rfl, rfl⟩
    exact ⟨rfl, Told.mk (Ev.refl hI) hf1 hf2 (by rw [cells_at hw]; exact k4) (by rw [cells_at hw]; exact k5)⟩

def nameI (t : List Nat) (i : Int) : Int := if 0 ≤ i ∧ i < t.length then nth (namesL t) i.toNat else -1
theorem nameI_out {t : List Nat} {i : Int} (h : i < 0 ∨ (t.length : Int) ≤ i) : nameI t i = -1 := by
  unfold nameI; rw [if_neg (by omega)]
theorem nameI_in {t : List Nat} {i : Nat} (h : i < t.length) : nameI t (i : Int) = nth (namesL t) i := by
  unfold nameI; rw [if_pos (by omega)]; simp

set_option maxHeartbeats 400000 in
theorem name_any (R : Reg) (w : World) (hI : Inv R w) (b : Nat) (s : List Nat) (root lone : Int) (hb : R b = some (.inr (.inr (s, root, lone)))) (off : Nat) (t : List Nat) (ht : Half s off t) (i : Int) :
    Calls Try.prog 88 #[.pointer (some ⟨b, off, none⟩), .int .i64 i] w (RetV R w (.int .i64 (nameI t i))) := by
  have HD := Lib.hid (do_told R w hI b s root lone hb off t ht)
  obtain ⟨hT, hlen, hn, _⟩ := hI.halfCells hb ht
  have hmf := makeFunc_run
  clear hI hb ht hT
  go_enter Try.func88, Try.ntmps88
  go_wp2_with fail
  refine HD.out.mono ?_
  rintro e w1 ⟨rfl, R1, a1, c1, a2, c2, he, h1, h2, c4, c5⟩
  have HE := Lib.hid he
  have H1 := Lib.hid h1
  clear he h1 h2
  by_cases h0 : i < 0
  · have HA := Lib.hid (nameI_out (t := t) (Or.inl h0))
    go_wp2_with fail
    go_ret
    exact ⟨ret_int HA.out.symm, R1, HE.out⟩
  · by_cases h1 : (t.length : Int) ≤ i
    · have HA := Lib.hid (nameI_out (t := t) (Or.inr h1))
      go_wp2_with fail
      go_ret
      exact ⟨ret_int HA.out.symm, R1, HE.out⟩
    · obtain ⟨k, rfl⟩ := Int.eq_ofNat_of_zero_le (show 0 ≤ i by omega)
      have hk : k < t.length := by omega
      have HA := Lib.hid (nameI_in hk)
      have h2 : decide (t.length ≤ k) = false := by simp; omega
      have h3 : ¬ ((k : Int) < 0) := by omega
      obtain ⟨bx, ox, e1, hc⟩ := (H1.out.ints HE.out.inv).cell (i := k) (by rw [namesL_length]; exact hk)
      subst e1
      clear h0 h1
      go_wp2_with fail
      go_ret
      exact ⟨ret_int HA.out.symm, R1, HE.out⟩

/-- count: how many; and the memo stands -/
def CountQ (R : Reg) (w : World) (b off : Nat) (t : List Nat) (e : Ending) (w' : World) : Prop := e = .returned (.int .i64 ((sizesL t).length : Int)) ∧ Told R w b off t w'

theorem count_any (R : Reg) (w : World) (hI : Inv R w) (b : Nat) (s : List Nat) (root lone : Int) (hb : R b = some (.inr (.inr (s, root, lone)))) (off : Nat) (t : List Nat) (ht : Half s off t) :
    Calls Try.prog 106 #[.pointer (some ⟨b, off, none⟩)] w (CountQ R w b off t) := by
  have HD := Lib.hid (do_told R w hI b s root lone hb off t ht)
  have hmf := makeFunc_run
  clear hI hb ht
  go_enter Try.func106, Try.ntmps106
  go_wp2_with fail
  refine HD.out.mono ?_
  rintro e w1 ⟨rfl, hq⟩
  have HQ := Lib.hid hq
  obtain ⟨R1, a1, c1, a2, c2, he, h1, h2, c4, c5⟩ := hq
  clear he h1 h2
  go_wp2_with fail
  go_ret
  exact ⟨rfl, HQ.out⟩

end Go.Proofs.Ytnbecpeiodcohaa
