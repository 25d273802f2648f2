/- A map's genus, by how many parts, vertices, edges and faces it has; so by other names it is the same. Conditions: none. Shrunk, a map has as many parts, and the same genus. Conditions: none. parquetryref10.Dual, Mirror; parquetrylaw10.like, where it is so. Conditions: the map's list lies in memory. A vertex's darts in order, without an edge's: each one's next is the map's that is left. Conditions: none. The document's lists, laid into a row, are the map that is left. Conditions: none. -/
import Derived.Test.YtnbecpeiodcohaaZDualCuts23
import Derived.Deep.RegionHeld3
import Derived.Test.YtnbecpeiodcohaaZDualCuts24
namespace Go.Proofs.Ytnbecpeiodcohaa
set_option linter.unusedVariables false

/-- a sum over the first so many -/
def sumK (f : Nat → Nat) : Nat → Nat
  | 0 => 0
  | k + 1 => sumK f k + f k
theorem sum_tally {N : Nat → Int} {p : Nat → Prop} {n C : Nat} (h0 : ∀ d, d < n → 0 ≤ N d ∧ N d < (C : Int)) : sumK (fun k => tally (fun d => N d = (k : Int) ∧ p d) n) C = tally p n := by
  have key : ∀ c, sumK (fun k => tally (fun d => N d = (k : Int) ∧ p d) n) c = tally (fun d => p d ∧ N d < (c : Int)) n := fun c => by
    induction c with
    | zero => exact (tally_none fun d hd h => by have := (h0 d hd).1; have := h.2; omega).symm
    | succ c ih =>
      show sumK _ c + _ = _
      rw [ih, tally_split (fun d => p d ∧ N d < ((c + 1 : Nat) : Int)) (fun d => N d < (c : Int))]
      congr 1
      · exact tally_congr fun d _ => ⟨fun h => ⟨⟨h.1, by omega⟩, h.2⟩, fun h => ⟨h.1.1, h.2⟩⟩
      · exact tally_congr fun d _ => ⟨fun h => ⟨⟨h.2, by omega⟩, by omega⟩, fun h => ⟨by omega, h.1.1⟩⟩
  rw [key]
  exact tally_congr fun d hd => ⟨fun h => h.1, fun h => ⟨h, (h0 d hd).2⟩⟩

theorem genus_total {s : List Nat} (hs : IsPerm s) (he : s.length % 2 = 0) : 2 * genusL s = 2 * (partsN s : Int) - ((sizesL s).length : Nat) + ((s.length / 2 : Nat) : Int) - ((sizesL (phiL s)).length : Nat) := by
  have hp := phiL_perm hs he
  have hN : ∀ d, d < s.length → 0 ≤ nth (partsL s) d ∧ nth (partsL s) d < ((partsN s : Nat) : Int) := fun d hd => partsL_lt hs he hd
  have h1 : sumK (fun k => vcnt s (partsL s) (k : Int) s.length) (partsN s) = (sizesL s).length := by
    rw [sizesL_tally hs, ← sum_tally (p := Least (cyc s.length (at' s))) hN]
    congr 1
    funext k
    exact vcnt_tally hs (partsL s) k (Nat.le_refl _)
  have h2 : sumK (fun k => vcnt (phiL s) (partsL s) (k : Int) s.length) (partsN s) = (sizesL (phiL s)).length := by
    rw [sizesL_tally hp, phiL_length, ← sum_tally (p := Least (cyc s.length (at' (phiL s)))) hN]
    congr 1
    funext k
    have := vcnt_tally hp (partsL s) k (j := s.length) (by rw [phiL_length]; exact Nat.le_refl _)
    rw [phiL_length] at this
    exact this
  have h3 : sumK (fun k => ecnt (partsL s) (k : Int) s.length) (partsN s) = s.length / 2 := by
    have e : ∀ k : Nat, ecnt (partsL s) (k : Int) s.length = tally (fun e => nth (partsL s) (2 * e) = (k : Int) ∧ True) (s.length / 2) := fun k => by
      have := (edges_tally (s := s) (k : Int) (fun x hx => partsL_mate hs he hx) (e := s.length / 2) (by omega)).1
      rw [show 2 * (s.length / 2) = s.length by omega] at this
      rw [this]
      exact tally_congr fun d _ => ⟨fun h => ⟨h, trivial⟩, fun h => h.1⟩
    rw [show (fun k : Nat => ecnt (partsL s) (k : Int) s.length) = fun k : Nat => tally (fun e => nth (partsL s) (2 * e) = (k : Int) ∧ True) (s.length / 2) from funext e,
      sum_tally (N := fun e => nth (partsL s) (2 * e)) (p := fun _ => True) (n := s.length / 2) (C := partsN s) fun d hd => hN (2 * d) (by omega)]
    exact tally_all fun _ _ => trivial
  have key : ∀ c, c ≤ partsN s → 2 * genusTo s c = 2 * (c : Int) - (sumK (fun k => vcnt s (partsL s) (k : Int) s.length) c : Nat) + (sumK (fun k => ecnt (partsL s) (k : Int) s.length) c : Nat) - (sumK (fun k => vcnt (phiL s) (partsL s) (k : Int) s.length) c : Nat) := fun c => by
    induction c with
    | zero => intro _; rfl
    | succ c ih =>
      intro hc
      have ih := ih (by omega)
      have hg := (genOf_euler hs he (k := c) (by omega)).2
      show 2 * (genusTo s c + genOf s (partsL s) c) = _
      simp only [sumK]
      omega
  have := key (partsN s) (Nat.le_refl _)
  rw [h1, h2, h3] at this
  exact this

section
variable {p n : Nat} {r q : Nat → Nat → Prop} {P' P : Nat → Prop} (hr : Per p r) (hq : Per n q) (f : Nat → Nat)
  (hf : ∀ x, x < p → P' x → f x < n ∧ P (f x)) (hb : ∀ y, y < n → P y → ∃ x, x < p ∧ P' x ∧ q (f x) y) (hP : ∀ x y, P x → q x y → P y) (hP' : ∀ x y, P' x → r x y → P' y) (hfl : ∀ x, x < p → f x < n) (hrq : ∀ x y, x < p → y < p → (r x y ↔ q (f x) (f y)))
include hr hq hf hb hP hP' hfl hrq
/-- as many classes there as here, of those that are looked at -/
theorem cls_both : cls r P' p = cls q P n := by
  have hx : ∀ x, ∃ l, x < p → q l (f x) ∧ Least q l := fun x => by
    by_cases h : x < p
    · obtain ⟨l, _, h1, h2⟩ := hq.least (f x) (hfl x h)
      exact ⟨l, fun _ => ⟨h1, h2⟩⟩
    · exact ⟨0, fun h' => absurd h' h⟩
  have hy : ∀ y, ∃ l, y < n → P y → ∃ x, x < p ∧ P' x ∧ q (f x) y ∧ r l x ∧ Least r l := fun y => by
    by_cases h : y < n ∧ P y
    · obtain ⟨x, h1, h1', h2⟩ := hb y h.1 h.2
      obtain ⟨l, _, h3, h4⟩ := hr.least x h1
      exact ⟨l, fun _ _ => ⟨x, h1, h1', h2, h3, h4⟩⟩
    · exact ⟨0, fun h1 h2 => absurd ⟨h1, h2⟩ h⟩
  refine Nat.le_antisymm ?_ ?_
  · refine tally_inj (fun x => Classical.choose (hx x)) (fun x hxp h => ?_) (fun x y hxp hyp h1 h2 e => ?_)
    · obtain ⟨h1, h2⟩ := Classical.choose_spec (hx x) hxp
      exact ⟨hq.dom h1, hP _ _ (hf x hxp h.1).2 (hq.symm h1), h2⟩
    · have e : Classical.choose (hx x) = Classical.choose (hx y) := e
      have a := (Classical.choose_spec (hx x) hxp).1
      have b := (Classical.choose_spec (hx y) hyp).1
      rw [e] at a
      exact hr.least_one h1.2 h2.2 ((hrq x y hxp hyp).2 (hq.trans (hq.symm a) b))
  · refine tally_inj (fun y => Classical.choose (hy y)) (fun y hyn h => ?_) (fun y z hyn hzn h1 h2 e => ?_)
    · obtain ⟨x, h1, h1', h2, h3, h4⟩ := Classical.choose_spec (hy y) hyn h.1
      exact ⟨hr.dom h3, hP' _ _ h1' (hr.symm h3), h4⟩
    · have e : Classical.choose (hy y) = Classical.choose (hy z) := e
      obtain ⟨x, a1, _, a2, a3, _⟩ := Classical.choose_spec (hy y) hyn h1.1
      obtain ⟨x', b1, _, b2, b3, _⟩ := Classical.choose_spec (hy z) hzn h2.1
      rw [e] at a3
      have h := (hrq x x' a1 b1).1 (hr.trans (hr.symm a3) b3)
      exact hq.least_one h1.2 h2.2 (hq.trans (hq.symm a2) (hq.trans h b2))
end

section
variable {s t : List Nat} (hs : IsPerm s) (ht : IsPerm t) (hl : t.length = s.length)
include hs ht hl

theorem rel_it : ∀ (j : Nat) {x : Nat}, x < s.length → itf (at' (relL s t)) j (at' t x) = at' t (itf (at' s) j x)
  | 0, x, _ => rfl
  | j + 1, x, hx => by
    show itf _ j (at' (relL s t) (at' t x)) = at' t (itf (at' s) j (at' s x))
    rw [relL_to ht hl hx]
    exact rel_it j (hs.lt hx)
theorem rel_cyc {x y : Nat} (hx : x < s.length) (hy : y < s.length) : cyc s.length (at' s) x y ↔ cyc s.length (at' (relL s t)) (at' t x) (at' t y) := by
  have hlt : ∀ x, x < s.length → at' t x < s.length := fun x hx => by have := ht.lt (i := x) (by rw [hl]; exact hx); omega
  constructor
  · rintro ⟨_, _, j, e⟩
    exact ⟨hlt x hx, hlt y hy, j, by rw [rel_it hs ht hl j hx, e]⟩
  · rintro ⟨_, _, j, e⟩
    rw [rel_it hs ht hl j hx] at e
    exact ⟨hx, hy, j, ht.inj (by rw [hl]; exact hs.pm.it hx j) (by rw [hl]; exact hy) e⟩
theorem rel_vertices : (sizesL (relL s t)).length = (sizesL s).length := by
  have hp := relL_perm hs ht hl
  have hlt : ∀ x, x < s.length → at' t x < s.length := fun x hx => by have := ht.lt (i := x) (by rw [hl]; exact hx); omega
  rw [sizesL_tally hs, sizesL_tally hp, relL_length]
  have h := cls_cover (p := s.length) (n := s.length) (P := fun _ => True) hs.pm.per (q := cyc s.length (at' (relL s t))) (by have := hp.pm.per; rwa [relL_length] at this) (at' t) (fun x hx => ⟨hlt x hx, trivial⟩) (fun y hy _ => by
    obtain ⟨x, hx, e⟩ := ht.surj (y := y) (by rw [hl]; exact hy)
    refine ⟨x, by rw [← hl]; exact hx, ?_⟩
    rw [e]
    exact (show Per s.length (cyc s.length (at' (relL s t))) by have := hp.pm.per; rwa [relL_length] at this).refl hy) (fun _ _ _ _ => trivial) (fun x y hx hy => rel_cyc hs ht hl hx hy)
  have e1 : cls (cyc s.length (at' s)) (fun _ => True) s.length = tally (Least (cyc s.length (at' s))) s.length := tally_congr fun k _ => ⟨fun h => h.2, fun h => ⟨trivial, h⟩⟩
  have e2 : cls (cyc s.length (at' (relL s t))) (fun _ => True) s.length = tally (Least (cyc s.length (at' (relL s t)))) s.length := tally_congr fun k _ => ⟨fun h => h.2, fun h => ⟨trivial, h⟩⟩
  rw [← e1, ← e2, h]
end

theorem phi_rel {s t : List Nat} (he : s.length % 2 = 0) (ht : IsPerm t) (hl : t.length = s.length) (hm : Mates t) : phiL (relL s t) = relL (phiL s) t := by
  refine eq_at (by rw [phiL_length, relL_length, relL_length, phiL_length]) fun j hj => ?_
  rw [phiL_length, relL_length] at hj
  obtain ⟨d, hd, rfl⟩ := ht.surj (y := j) (by rw [hl]; exact hj)
  have hds : d < s.length := by rw [← hl]; exact hd
  rw [phiL_at (by rw [relL_length]; exact hj), ← hm d hd, relL_to ht hl (xor_one_lt he hds), relL_to ht (by rw [phiL_length]; exact hl) (by rw [phiL_length]; exact hds), phiL_at hds]

section
variable {s t : List Nat} (hs : IsPerm s) (he : s.length % 2 = 0) (ht : IsPerm t) (hl : t.length = s.length) (hm : Mates t)
include hs he ht hl hm

theorem con_rel {x y : Nat} (hx : x < s.length) (hy : y < s.length) : Con s x y ↔ Con (relL s t) (at' t x) (at' t y) := by
  have hp := relL_perm hs ht hl
  have hrl := relL_length s t
  have hlt : ∀ x, x < s.length → at' t x < s.length := fun x hx => by have := ht.lt (i := x) (by rw [hl]; exact hx); omega
  have hper : Per s.length (Con (relL s t)) := by have := Con.per hp; rwa [hrl] at this
  have hps := Con.per hs
  constructor
  · intro h
    have hr : Per s.length (fun x y => x < s.length ∧ y < s.length ∧ Con (relL s t) (at' t x) (at' t y)) :=
      ⟨fun h => ⟨h, h, hper.refl (hlt _ h)⟩, fun h => ⟨h.2.1, h.1, hper.symm h.2.2⟩, fun h k => ⟨h.1, k.2.1, hper.trans h.2.2 k.2.2⟩, fun h => h.1⟩
    exact (Con.sub hs hr (fun z hz => ⟨hz, hs.lt hz, by
      rw [← relL_to ht hl hz]
      exact Con.step hp (by rw [hrl]; exact hlt z hz)⟩) (fun z hz => ⟨hz, xor_one_lt he hz, by
      rw [hm z (by rw [hl]; exact hz)]
      exact Con.mate hp (by rw [hrl]; exact he) (by rw [hrl]; exact hlt z hz)⟩) h).2.2
  · intro h
    have hinv : ∀ z, z < s.length → ∃ d, d < s.length ∧ at' t d = z := fun z hz => by
      obtain ⟨d, hd, e⟩ := ht.surj (y := z) (by rw [hl]; exact hz)
      exact ⟨d, by omega, e⟩
    have hr : Per s.length (fun x y => ∃ a b, a < s.length ∧ b < s.length ∧ at' t a = x ∧ at' t b = y ∧ Con s a b) := by
      refine ⟨fun {x} h => ?_, ?_, ?_, ?_⟩
      · obtain ⟨d, hd, e⟩ := hinv x h
        exact ⟨d, d, hd, hd, e, e, hps.refl hd⟩
      · rintro x y ⟨a, b, ha, hb, e1, e2, h⟩
        exact ⟨b, a, hb, ha, e2, e1, hps.symm h⟩
      · rintro x y z ⟨a, b, ha, hb, e1, e2, h⟩ ⟨b', c, hb', hc, e3, e4, k⟩
        have : b = b' := ht.inj (by omega) (by omega) (by rw [e2, e3])
        subst this
        exact ⟨a, c, ha, hc, e1, e4, hps.trans h k⟩
      · rintro x y ⟨a, b, ha, hb, e1, e2, h⟩
        rw [← e1]; exact hlt a ha
    obtain ⟨a, b, ha, hb, e1, e2, hc⟩ := Con.sub hp (r := fun x y => ∃ a b, a < s.length ∧ b < s.length ∧ at' t a = x ∧ at' t b = y ∧ Con s a b) (by rw [hrl]; exact hr) (fun z hz => by
      rw [hrl] at hz
      obtain ⟨d, hd, rfl⟩ := hinv z hz
      exact ⟨d, at' s d, hd, hs.lt hd, rfl, (relL_to ht hl hd).symm, Con.step hs hd⟩) (fun z hz => by
      rw [hrl] at hz
      obtain ⟨d, hd, rfl⟩ := hinv z hz
      exact ⟨d, d ^^^ 1, hd, xor_one_lt he hd, rfl, hm d (by omega), Con.mate hs he hd⟩) h
    have h1 : a = x := ht.inj (by omega) (by omega) e1
    have h2 : b = y := ht.inj (by omega) (by omega) e2
    rw [h1, h2] at hc
    exact hc
theorem rel_parts : partsN (relL s t) = partsN s := by
  have hp := relL_perm hs ht hl
  have hrl := relL_length s t
  have her : (relL s t).length % 2 = 0 := by rw [hrl]; exact he
  have hlt : ∀ x, x < s.length → at' t x < s.length := fun x hx => by have := ht.lt (i := x) (by rw [hl]; exact hx); omega
  have hper : Per s.length (Con (relL s t)) := by have := Con.per hp; rwa [hrl] at this
  have a := (partsL_ord hs he).cnt_eq (Nat.le_refl s.length)
  have b := (partsL_ord hp her).cnt_eq (Nat.le_refl (relL s t).length)
  have h := cls_cover (p := s.length) (n := s.length) (P := fun _ => True) (Con.per hs) hper (at' t) (fun x hx => ⟨hlt x hx, trivial⟩) (fun y hy _ => by
    obtain ⟨x, hx, e⟩ := ht.surj (y := y) (by rw [hl]; exact hy)
    refine ⟨x, by rw [← hl]; exact hx, ?_⟩
    rw [e]
    exact hper.refl hy) (fun _ _ _ _ => trivial) (fun x y hx hy => con_rel hs he ht hl hm hx hy)
  have e1 : cls (Con s) (fun _ => True) s.length = tally (Least (Con s)) s.length := tally_congr fun k _ => ⟨fun h => h.2, fun h => ⟨trivial, h⟩⟩
  have e2 : cls (Con (relL s t)) (fun _ => True) s.length = tally (Least (Con (relL s t))) s.length := tally_congr fun k _ => ⟨fun h => h.2, fun h => ⟨trivial, h⟩⟩
  unfold partsN
  rw [hrl] at b ⊢
  exact b.trans (by rw [← e2, ← h, e1]; exact a.symm)
theorem genusL_rel : genusL (relL s t) = genusL s := by
  have hp := relL_perm hs ht hl
  have hrl := relL_length s t
  have h1 := genus_total hs he
  have h2 := genus_total hp (by rw [hrl]; exact he)
  rw [rel_parts hs he ht hl hm, rel_vertices hs ht hl, hrl, phi_rel he ht hl hm, rel_vertices (phiL_perm hs he) ht (by rw [phiL_length]; exact hl)] at h2
  omega
end
end Go.Proofs.Ytnbecpeiodcohaa

namespace Go.Proofs.Ytnbecpeiodcohaa
set_option linter.unusedVariables false

theorem ex_con {s : List Nat} (hs : IsPerm s) (he : s.length % 2 = 0) {e x : Nat} (hx : x < s.length) : Con s x (at' (exL s e) x) := by
  rw [exL_at hx]
  by_cases ho : x / 2 = e
  · rw [exI_own ho]
    exact (Con.per hs).trans (Con.mate hs he hx) (Con.step hs (xor_one_lt he hx))
  · rw [exI_else ho]
    exact Con.step hs hx

section
variable {s : List Nat} (hs : IsPerm s) (he : s.length % 2 = 0) {e : Nat} (hn : 2 * e + 2 ≤ s.length) (hne : nth (namesL s) (2 * e) ≠ nth (namesL s) (2 * e + 1))
include hs he hn

theorem way_con {d y : Nat} (hd : d < s.length) (h : Way (exL s e) (fun x => x / 2 = e) d y) : Con s d y := by
  have hp := exL_perm hs hn
  have hl := exL_length s e
  induction h with
  | @one d _ => exact ex_con hs he hd
  | @more d y _ _ ih => exact (Con.per hs).trans (ex_con hs he hd) (ih (by have := hp.lt (i := d) (by rw [hl]; exact hd); rwa [hl] at this))
theorem shr_con_up {x y : Nat} (h : Con (doneL (exL s e) e) x y) : Con s (unL e x) (unL e y) := by
  have hp := exL_perm hs hn
  have hl := exL_length s e
  have hn2 : 2 * e + 2 ≤ (exL s e).length := by rw [hl]; exact hn
  have hdp := doneL_perm hp hn2
  have hdl : (doneL (exL s e) e).length = s.length - 2 := by rw [doneL_length, hl]
  have hq := Con.per hs
  have hr : Per (doneL (exL s e) e).length (fun x y => x < s.length - 2 ∧ y < s.length - 2 ∧ Con s (unL e x) (unL e y)) := by
    rw [hdl]
    exact ⟨fun h => ⟨h, h, hq.refl (unL_lt hn h)⟩, fun h => ⟨h.2.1, h.1, hq.symm h.2.2⟩, fun h k => ⟨h.1, k.2.1, hq.trans h.2.2 k.2.2⟩, fun h => h.1⟩
  refine (Con.sub hdp hr (fun z hz => ?_) (fun z hz => ?_) h).2.2
  · rw [hdl] at hz
    have hlt := hdp.lt (i := z) (by rw [hdl]; exact hz)
    rw [hdl] at hlt
    exact ⟨hz, hlt, way_con hs he hn (unL_lt hn hz) (done_way hp hn2 (by rw [hl]; exact hz))⟩
  · rw [hdl] at hz
    exact ⟨hz, xor_one_lt (by omega) hz, by rw [unL_mate]; exact Con.mate hs he (unL_lt hn hz)⟩
include hne
theorem shr_con_down {x y : Nat} (hx : x < s.length - 2) (hy : y < s.length - 2) (h : Con s (unL e x) (unL e y)) : Con (doneL (exL s e) e) x y := by
  have hp := exL_perm hs hn
  have hl := exL_length s e
  have hn2 : 2 * e + 2 ≤ (exL s e).length := by rw [hl]; exact hn
  have hdp := doneL_perm hp hn2
  have hdl : (doneL (exL s e) e).length = s.length - 2 := by rw [doneL_length, hl]
  have hq : Per s.length (cyc s.length (at' (exL s e))) := by have := hp.pm.per; rwa [hl] at this
  have hc := Con.per hdp
  rw [hdl] at hc
  have hcyc : ∀ z z', z < s.length - 2 → z' < s.length - 2 → cyc s.length (at' (exL s e)) (unL e z) (unL e z') → Con (doneL (exL s e) e) z z' := fun z z' hz hz' k => by
    have h1 := (cyc_done hp hn2 (x := z) (y := z') (by rw [hl]; exact hz) (by rw [hl]; exact hz')).2 (by rw [hl]; exact k)
    have hpm := hdp.pm
    rw [hdl] at hpm
    rw [hl] at h1
    refine hpm.cyc_sub hc (fun w hw => ?_) h1
    exact Con.step hdp (by rw [hdl]; exact hw)
  have hAB : cyc s.length (at' (exL s e)) (2 * e) (2 * e + 1) := (ex_cyc hs hn hne (by omega) (by omega)).2 (Or.inr (Or.inl ⟨hs.pm.per.refl (by omega), hs.pm.per.refl (by omega)⟩))
  have hr : Per s.length (fun X Y => X < s.length ∧ Y < s.length ∧ ((∃ z, z < s.length - 2 ∧ cyc s.length (at' (exL s e)) X (unL e z)) ↔ (∃ z, z < s.length - 2 ∧ cyc s.length (at' (exL s e)) Y (unL e z))) ∧
      ∀ z z', z < s.length - 2 → z' < s.length - 2 → cyc s.length (at' (exL s e)) X (unL e z) → cyc s.length (at' (exL s e)) Y (unL e z') → Con (doneL (exL s e) e) z z') := by
    refine ⟨fun {X} h => ⟨h, h, Iff.rfl, fun z z' hz hz' k k' => hcyc z z' hz hz' (hq.trans (hq.symm k) k')⟩, ?_, ?_, fun h => h.1⟩
    · rintro X Y ⟨h1, h2, h3, h4⟩
      exact ⟨h2, h1, h3.symm, fun z z' hz hz' k k' => hc.symm (h4 z' z hz' hz k' k)⟩
    · rintro X Y Z ⟨h1, h2, h3, h4⟩ ⟨k1, k2, k3, k4⟩
      refine ⟨h1, k2, h3.trans k3, fun z z' hz hz' a b => ?_⟩
      obtain ⟨w, hw, c⟩ := h3.1 ⟨z, hz, a⟩
      exact hc.trans (h4 z w hz hw a c) (k4 w z' hw hz' c b)
  have same : ∀ X Y, cyc s.length (at' (exL s e)) X Y → X < s.length ∧ Y < s.length ∧ ((∃ z, z < s.length - 2 ∧ cyc s.length (at' (exL s e)) X (unL e z)) ↔ (∃ z, z < s.length - 2 ∧ cyc s.length (at' (exL s e)) Y (unL e z))) ∧
      ∀ z z', z < s.length - 2 → z' < s.length - 2 → cyc s.length (at' (exL s e)) X (unL e z) → cyc s.length (at' (exL s e)) Y (unL e z') → Con (doneL (exL s e) e) z z' := fun X Y k =>
    ⟨hq.dom k, hq.cod k, ⟨fun ⟨z, hz, a⟩ => ⟨z, hz, hq.trans (hq.symm k) a⟩, fun ⟨z, hz, a⟩ => ⟨z, hz, hq.trans k a⟩⟩, fun z z' hz hz' a b => hcyc z z' hz hz' (hq.trans (hq.symm a) (hq.trans k b))⟩
  have hsub := Con.sub hs hr (fun X hX => same X (at' s X) ((ex_cyc hs hn hne hX (hs.lt hX)).2 (Or.inl (hs.pm.step hX)))) (fun X hX => by
    have hXm := xor_one_lt he hX
    by_cases ho : X / 2 = e
    · have h2 : X = 2 * e ∨ X = 2 * e + 1 := by omega
      rcases h2 with rfl | rfl
      · rw [xor_even]; exact same _ _ hAB
      · rw [← xor_even, xor_one_one, xor_even]; exact same _ _ (hq.symm hAB)
    · have hom : ¬ (X ^^^ 1) / 2 = e := fun k => ho (mate_own.1 k)
      have r1 := un_nm ho
      have r2 := un_nm hom
      have l1 := nmL_lt hn ho hX
      have l2 := nmL_lt hn hom hXm
      have hnm : nmL e (X ^^^ 1) = nmL e X ^^^ 1 := unL_inj (e := e) (by rw [r2, unL_mate, r1])
      refine ⟨hX, hXm, ⟨fun _ => ⟨_, l2, by rw [r2]; exact hq.refl hXm⟩, fun _ => ⟨_, l1, by rw [r1]; exact hq.refl hX⟩⟩, fun z z' hz hz' a b => ?_⟩
      have c1 := hcyc z (nmL e X) hz l1 (by rw [r1]; exact hq.symm a)
      have c2 := hcyc (nmL e (X ^^^ 1)) z' l2 hz' (by rw [r2]; exact b)
      have c3 : Con (doneL (exL s e) e) (nmL e X) (nmL e X ^^^ 1) := Con.mate hdp (by rw [hdl]; omega) (by rw [hdl]; exact l1)
      rw [hnm] at c2
      exact hc.trans c1 (hc.trans c3 c2)) h
  exact hsub.2.2.2 x y hx hy (hq.refl (unL_lt hn hx)) (hq.refl (unL_lt hn hy))
theorem bare_both : (bareB s e (2 * e) && bareB s e (2 * e + 1)) = true ↔ ¬ ∃ z, Con s (2 * e) z ∧ ¬ z / 2 = e := by
  have hA : 2 * e < s.length := by omega
  have hB : 2 * e + 1 < s.length := by omega
  have nn := ex_not hs hn hne
  have hq := hs.pm.per
  have hcs : ∀ {x y}, cyc s.length (at' s) x y → Con s x y := fun {x y} h => hs.pm.cyc_sub (Con.per hs) (fun z hz => Con.step hs hz) h
  have hm : Con s (2 * e) (2 * e + 1) := by have := Con.mate hs he hA; rwa [xor_even] at this
  rw [Bool.and_eq_true, bare_iff hs hn hA, bare_iff hs hn hB]
  constructor
  · rintro ⟨h1, h2⟩ ⟨z, hz, ho⟩
    have f1 : at' s (2 * e) = 2 * e := by
      have h3 := h1 _ (hs.pm.step hA)
      have h4 : at' s (2 * e) = 2 * e ∨ at' s (2 * e) = 2 * e + 1 := by omega
      rcases h4 with k | k
      · exact k
      · exact absurd (by have := hs.pm.step hA; rwa [k] at this) nn
    have f2 : at' s (2 * e + 1) = 2 * e + 1 := by
      have h3 := h2 _ (hs.pm.step hB)
      have h4 : at' s (2 * e + 1) = 2 * e ∨ at' s (2 * e + 1) = 2 * e + 1 := by omega
      rcases h4 with k | k
      · exact absurd (hq.symm (by have := hs.pm.step hB; rwa [k] at this)) nn
      · exact k
    have := Con.sub hs (r := fun x y => x < s.length ∧ y < s.length ∧ (x / 2 = e ↔ y / 2 = e)) ⟨fun h => ⟨h, h, Iff.rfl⟩, fun h => ⟨h.2.1, h.1, h.2.2.symm⟩, fun h k => ⟨h.1, k.2.1, h.2.2.trans k.2.2⟩, fun h => h.1⟩ (fun x hx => by
      refine ⟨hx, hs.lt hx, ⟨fun k => ?_, fun k => ?_⟩⟩
      · have h4 : x = 2 * e ∨ x = 2 * e + 1 := by omega
        rcases h4 with rfl | rfl
        · rw [f1]; exact k
        · rw [f2]; exact k
      · have h4 : at' s x = 2 * e ∨ at' s x = 2 * e + 1 := by omega
        rcases h4 with k4 | k4
        · have := hs.inj hx hA (by rw [f1]; exact k4); omega
        · have := hs.inj hx hB (by rw [f2]; exact k4); omega) (fun x hx => ⟨hx, xor_one_lt he hx, mate_own.symm⟩) hz
    exact ho (this.2.2.1 (by omega))
  · intro h
    refine ⟨fun z hz => ?_, fun z hz => ?_⟩
    · by_cases ho : z / 2 = e
      · exact ho
      · exact absurd ⟨z, hcs hz, ho⟩ h
    · by_cases ho : z / 2 = e
      · exact ho
      · exact absurd ⟨z, (Con.per hs).trans hm (hcs hz), ho⟩ h
theorem shr_parts : ((partsN (doneL (exL s e) e) : Nat) : Int) + shrLone s e = (partsN s : Nat) := by
  have hp := exL_perm hs hn
  have hl := exL_length s e
  have hn2 : 2 * e + 2 ≤ (exL s e).length := by rw [hl]; exact hn
  have hdp := doneL_perm hp hn2
  have hdl : (doneL (exL s e) e).length = s.length - 2 := by rw [doneL_length, hl]
  have hq := Con.per hs
  have hr : Per (s.length - 2) (Con (doneL (exL s e) e)) := by have := Con.per hdp; rwa [hdl] at this
  have hA : 2 * e < s.length := by omega
  have hB : 2 * e + 1 < s.length := by omega
  have hm : Con s (2 * e) (2 * e + 1) := by have := Con.mate hs he hA; rwa [xor_even] at this
  have a := (partsL_ord hs he).cnt_eq (Nat.le_refl s.length)
  have b := (partsL_ord hdp (by rw [hdl]; omega)).cnt_eq (Nat.le_refl (doneL (exL s e) e).length)
  have h1 : partsN (doneL (exL s e) e) = cls (Con (doneL (exL s e) e)) (fun _ => True) (s.length - 2) := by
    unfold partsN
    rw [b, hdl]
    exact tally_congr fun k _ => ⟨fun h => ⟨trivial, h⟩, fun h => h.2⟩
  have h2 := cls_cover (P := fun y => ∃ z, Con s y z ∧ ¬ z / 2 = e) hr hq (unL e) (fun x hx => ⟨unL_lt hn hx, unL e x, hq.refl (unL_lt hn hx), unL_own⟩) (fun y hy hP => by
    obtain ⟨z, hz, ho⟩ := hP
    exact ⟨nmL e z, nmL_lt hn ho (hq.cod hz), by rw [un_nm ho]; exact hq.symm hz⟩) (fun x y hx hxy => by
    obtain ⟨z, hz, ho⟩ := hx
    exact ⟨z, hq.trans (hq.symm hxy) hz, ho⟩) (fun x y hx hy => ⟨fun h => shr_con_up hs he hn h, fun h => shr_con_down hs he hn hne hx hy h⟩)
  have h3 : partsN s = cls (Con s) (fun y => ∃ z, Con s y z ∧ ¬ z / 2 = e) s.length + tally (fun x => Least (Con s) x ∧ ¬ ∃ z, Con s x z ∧ ¬ z / 2 = e) s.length := by
    unfold partsN
    rw [a, tally_split _ (fun y => ∃ z, Con s y z ∧ ¬ z / 2 = e)]
    congr 1
    exact tally_congr fun k _ => And.comm
  have h4 := tally_two (p := fun x => Least (Con s) x ∧ ¬ ∃ z, Con s x z ∧ ¬ z / 2 = e) hA hB (by omega) (fun x hx hpx => by
    by_cases ho : x / 2 = e
    · omega
    · exact absurd ⟨x, hq.refl hx, ho⟩ hpx.2)
  have h5 : ind (Least (Con s) (2 * e + 1) ∧ ¬ ∃ z, Con s (2 * e + 1) z ∧ ¬ z / 2 = e) = 0 := ind_no fun h => h.1 (2 * e) (by omega) hm
  have h6 := ind_oneIf (p := Least (Con s) (2 * e) ∧ ¬ ∃ z, Con s (2 * e) z ∧ ¬ z / 2 = e) (b := bareB s e (2 * e) && bareB s e (2 * e + 1)) (by
    rw [bare_both hs he hn hne]
    exact ⟨fun h => h.2, fun h => ⟨fun y hy hc => h ⟨y, hq.symm hc, by omega⟩, h⟩⟩)
  rw [h1, h2, h3, h4, h5]
  unfold shrLone
  rw [← h6]
  omega
theorem genusL_shrink : genusL (doneL (exL s e) e) = genusL s := by
  have hp := exL_perm hs hn
  have hl := exL_length s e
  have hn2 : 2 * e + 2 ≤ (exL s e).length := by rw [hl]; exact hn
  have hdp := doneL_perm hp hn2
  have hdl : (doneL (exL s e) e).length = s.length - 2 := by rw [doneL_length, hl]
  have g1 := genus_total hs he
  have g2 := genus_total hdp (by rw [hdl]; omega)
  rw [turn_shrink hs he hn, hdl] at g2
  have v1 := shrink_vertices hs hn hne
  have v2 := cut_vertices (phiL_perm hs he) (e := e) (by rw [phiL_length]; exact hn)
  rw [phi_lone hs hn hne he] at v2
  have v3 := shr_parts hs he hn hne
  omega
end
end Go.Proofs.Ytnbecpeiodcohaa

namespace Go.Proofs.Ytnbecpeiodcohaa
open Go.RowKit
set_option linter.unusedVariables false

/-- a map's box, later on -/
theorem Ev.box3 {R R' : Reg} {w0 w' : World} {b : Nat} {x y z : Value} {T : TypeId} (hb : w0.heap[b]? = some (.cells #[x, y, z] T (0, 0))) (hn : R b = none) (h : Ev R w0 R' w') :
    w'.heap[b]? = some (.cells #[x, y, z] T (0, 0)) ∧ R' b = none := ⟨(h.block b (lt_of_block hb) hn).trans hb, h.free b (lt_of_block hb) hn⟩
theorem box_cells {w : World} {b : Nat} {x y z : Value} {T : TypeId} (hb : w.heap[b]? = some (.cells #[x, y, z] T (0, 0))) : w.cell? ⟨b, 0, none⟩ = some x ∧ w.cell? ⟨b, 1, none⟩ = some y ∧ w.cell? ⟨b, 2, none⟩ = some z ∧ ∀ o, w.frozen? ⟨b, o, none⟩ = false :=
  ⟨cells_at hb 0, cells_at hb 1, cells_at hb 2, fun o => by simp [World.frozen?, hb]⟩

theorem build_map (a : Option Addr) (n c : Nat) (r l : Int) (W : World) : (Instr.build 27 #[(0, .slice a n c), (1, .int .i64 r), (2, .int .i64 l)]).run Try.prog W = .ok (.agg #[.slice a n c, .int .i64 r, .int .i64 l]) W := by
  first | kernel_rfl | rfl | (go_simp; done) | (simp [go_sem]; done)

set_option maxRecDepth 100000 in
set_option maxHeartbeats 2000000 in
theorem r10dual_any (R : Reg) (w : World) (hI : Inv R w) (v : Value) (s : List Nat) (root lone : Int) (hv : FreeI R w v (toI s)) (hS : IsPerm s) (hn : s.length ≤ 1000000) (he : s.length % 2 = 0) :
    Calls Try.prog 63 #[refV v root lone] w (RetMap R w (phiL s) root lone) := by
  obtain ⟨a0, cap0, rfl, _⟩ := hv.open
  rw [toI_length] at hv ⊢
  have HC := Lib.hid (fun R' w' (hee : Ev R w R' w') => rphi_any R' w' hee.inv _ s root lone (hv.ev hee) (by omega) he)
  have hll : (phiL s).length = s.length := phiL_length s
  obtain ⟨L, hL⟩ : ∃ L, phiL s = L := ⟨_, rfl⟩
  rw [hL] at HC hll ⊢
  have HLl := Lib.hid hll
  try unfold refV at HC
  unfold refV
  obtain ⟨A, hA⟩ : ∃ A : Value, A = .slice a0 s.length cap0 := ⟨_, rfl⟩
  rw [toI_length] at *
  have he1 : Ev R w R (w.alloc (.cells #[.slice a0 s.length cap0, .int .i64 root, .int .i64 lone] 27)) := (Ev.refl hI).alloc _
  have he2 := he1.alloc (.cells #[.slice none 0 0, .int .i64 0, .int .i64 0] 27)
  have hb1 : ((w.alloc (.cells #[.slice a0 s.length cap0, .int .i64 root, .int .i64 lone] 27)).alloc (.cells #[.slice none 0 0, .int .i64 0, .int .i64 0] 27)).heap[w.heap.size]? = some (.cells #[.slice a0 s.length cap0, .int .i64 root, .int .i64 lone] 27 (0, 0)) := by
    rw [Below.heap_alloc _ _ _ (by simp)]
    exact heap_alloc_new w _
  have hb2 : ((w.alloc (.cells #[.slice a0 s.length cap0, .int .i64 root, .int .i64 lone] 27)).alloc (.cells #[.slice none 0 0, .int .i64 0, .int .i64 0] 27)).heap[w.heap.size + 1]? = some (.cells #[.slice none 0 0, .int .i64 0, .int .i64 0] 27 (0, 0)) := by
    have := heap_alloc_new (w.alloc (.cells #[.slice a0 s.length cap0, .int .i64 root, .int .i64 lone] 27)) (.cells #[.slice none 0 0, .int .i64 0, .int .i64 0] 27)
    simpa using this
  have hn1 : R w.heap.size = none := hI.none_of_ge (Nat.le_refl _)
  have hn2 : R (w.heap.size + 1) = none := hI.none_of_ge (by omega)
  have HI := Lib.hid hI
  clear hI hv hS hn he he1 hA hL hll
  go_enter Try.func63, Try.ntmps63
  go_upto_region 1 with fail
  obtain ⟨w2, hw2⟩ : ∃ w2, w2 = (w.alloc (.cells #[.slice a0 s.length cap0, .int .i64 root, .int .i64 lone] 27)).alloc (.cells #[.slice none 0 0, .int .i64 0, .int .i64 0] 27) := ⟨_, rfl⟩
  rw [← hw2] at he2 hb1 hb2 ⊢
  have HB1 := Lib.hid (fun R' w' (h : Ev R w2 R' w') => h.box3 hb1 hn1)
  have HB2 := Lib.hid (fun R' w' (h : Ev R w2 R' w') => h.box3 hb2 hn2)
  have HE2 := Lib.hid he2
  have HEd := Lib.hid ((Ev.refl he2.inv).drew)
  have hbd := build_map
  obtain ⟨x0, x1, x2, _⟩ := box_cells (HB1.out _ _ HEd.out).1
  clear hw2 he2 hb1 hb2 hn1 hn2
  go_region_with (first
    | (go_at_call 78; refine (HC.out _ _ (HE2.out.trans HEd.out)).mono ?_; rintro z w3 ⟨v3, rfl, he3, ho3⟩; obtain ⟨a3, c3, rfl, _⟩ := ho3.ints.open; (try simp only [toI_length] at ho3 ⊢); have HO3 := Lib.hid ho3; have HEd := Lib.hid (HEd.out.trans he3); clear he3 ho3; obtain ⟨x0, x1, x2, _⟩ := box_cells (HB1.out _ _ HEd.out).1; obtain ⟨y0, y1, y2, yz⟩ := box_cells (HB2.out _ _ HEd.out).1))
  all_goals (go_wp2_with fail)
  all_goals (
    have hb3 := set3 (x := .slice a3 L.length c3) (y := .int .i64 root) (z := .int .i64 lone) (HB2.out _ _ HEd.out).1
    obtain ⟨u0, u1, u2, _⟩ := box_cells hb3
    have hn2 := (HB2.out _ _ HEd.out).2
    refine bodyPost_ret (v := refV (.slice a3 L.length c3) root lone) ?_ rfl ⟨a3, c3, rfl, ?_, ?_⟩
    · simp [results, Try.results63, go_sem, u0, u1, u2, refV]
    · exact (((HE2.out.trans HEd.out).setCell (by simp) hn2 _).setCell (by simp) hn2 _).setCell (by simp) hn2 _
    · have hne : ∀ (o : Nat), (Value.slice a3 L.length c3).ownBlock ≠ some (⟨w.heap.size + 1, o, none⟩ : Addr).block := fun o e => by
        have h1 := (HO3.out.lt _ e).1
        have h2 := lt_of_block (HB2.out _ _ (Ev.refl HE2.out.inv)).1
        simp at h1 h2
        omega
      exact (((HO3.out.mono (by have := HE2.out.size; simpa using this)).setCell (hne 0) _).setCell (hne 1) _).setCell (hne 2) _)

set_option maxRecDepth 100000 in
set_option maxHeartbeats 2000000 in
theorem r10mirror_any (R : Reg) (w : World) (hI : Inv R w) (v : Value) (s : List Nat) (root lone : Int) (hv : FreeI R w v (toI s)) (hS : IsPerm s) (hn : s.length ≤ 1000000) (he : s.length % 2 = 0) :
    Calls Try.prog 64 #[refV v root lone] w (RetMap R w (invL s) root lone) := by
  obtain ⟨a0, cap0, rfl, _⟩ := hv.open
  rw [toI_length] at hv ⊢
  have HC := Lib.hid (fun R' w' (hee : Ev R w R' w') => rinverse_any R' w' hee.inv _ s (hv.ev hee) hS (by omega))
  have hll : (invL s).length = s.length := invL_length s
  obtain ⟨L, hL⟩ : ∃ L, invL s = L := ⟨_, rfl⟩
  rw [hL] at HC hll ⊢
  have HLl := Lib.hid hll
  try unfold refV at HC
  unfold refV
  obtain ⟨A, hA⟩ : ∃ A : Value, A = .slice a0 s.length cap0 := ⟨_, rfl⟩
  rw [toI_length] at *
  have he1 : Ev R w R (w.alloc (.cells #[.slice a0 s.length cap0, .int .i64 root, .int .i64 lone] 27)) := (Ev.refl hI).alloc _
  have he2 := he1.alloc (.cells #[.slice none 0 0, .int .i64 0, .int .i64 0] 27)
  have hb1 : ((w.alloc (.cells #[.slice a0 s.length cap0, .int .i64 root, .int .i64 lone] 27)).alloc (.cells #[.slice none 0 0, .int .i64 0, .int .i64 0] 27)).heap[w.heap.size]? = some (.cells #[.slice a0 s.length cap0, .int .i64 root, .int .i64 lone] 27 (0, 0)) := by
    rw [Below.heap_alloc _ _ _ (by simp)]
    exact heap_alloc_new w _
  have hb2 : ((w.alloc (.cells #[.slice a0 s.length cap0, .int .i64 root, .int .i64 lone] 27)).alloc (.cells #[.slice none 0 0, .int .i64 0, .int .i64 0] 27)).heap[w.heap.size + 1]? = some (.cells #[.slice none 0 0, .int .i64 0, .int .i64 0] 27 (0, 0)) := by
    have := heap_alloc_new (w.alloc (.cells #[.slice a0 s.length cap0, .int .i64 root, .int .i64 lone] 27)) (.cells #[.slice none 0 0, .int .i64 0, .int .i64 0] 27)
    simpa using this
  have hn1 : R w.heap.size = none := hI.none_of_ge (Nat.le_refl _)
  have hn2 : R (w.heap.size + 1) = none := hI.none_of_ge (by omega)
  have HI := Lib.hid hI
  clear hI hv hS hn he he1 hA hL hll
  go_enter Try.func64, Try.ntmps64
  go_upto_region 1 with fail
  obtain ⟨w2, hw2⟩ : ∃ w2, w2 = (w.alloc (.cells #[.slice a0 s.length cap0, .int .i64 root, .int .i64 lone] 27)).alloc (.cells #[.slice none 0 0, .int .i64 0, .int .i64 0] 27) := ⟨_, rfl⟩
  rw [← hw2] at he2 hb1 hb2 ⊢
  have HB1 := Lib.hid (fun R' w' (h : Ev R w2 R' w') => h.box3 hb1 hn1)
  have HB2 := Lib.hid (fun R' w' (h : Ev R w2 R' w') => h.box3 hb2 hn2)
  have HE2 := Lib.hid he2
  have HEd := Lib.hid ((Ev.refl he2.inv).drew)
  have hbd := build_map
  obtain ⟨x0, x1, x2, _⟩ := box_cells (HB1.out _ _ HEd.out).1
  clear hw2 he2 hb1 hb2 hn1 hn2
  go_region_with (first
    | (go_at_call 107; refine (HC.out _ _ (HE2.out.trans HEd.out)).mono ?_; rintro z w3 ⟨v3, rfl, he3, ho3⟩; obtain ⟨a3, c3, rfl, _⟩ := ho3.ints.open; (try simp only [toI_length] at ho3 ⊢); have HO3 := Lib.hid ho3; have HEd := Lib.hid (HEd.out.trans he3); clear he3 ho3; obtain ⟨x0, x1, x2, _⟩ := box_cells (HB1.out _ _ HEd.out).1; obtain ⟨y0, y1, y2, yz⟩ := box_cells (HB2.out _ _ HEd.out).1))
  all_goals (go_wp2_with fail)
  all_goals (
    have hb3 := set3 (x := .slice a3 L.length c3) (y := .int .i64 root) (z := .int .i64 lone) (HB2.out _ _ HEd.out).1
    obtain ⟨u0, u1, u2, _⟩ := box_cells hb3
    have hn2 := (HB2.out _ _ HEd.out).2
    refine bodyPost_ret (v := refV (.slice a3 L.length c3) root lone) ?_ rfl ⟨a3, c3, rfl, ?_, ?_⟩
    · simp [results, Try.results64, go_sem, u0, u1, u2, refV]
    · exact (((HE2.out.trans HEd.out).setCell (by simp) hn2 _).setCell (by simp) hn2 _).setCell (by simp) hn2 _
    · have hne : ∀ (o : Nat), (Value.slice a3 L.length c3).ownBlock ≠ some (⟨w.heap.size + 1, o, none⟩ : Addr).block := fun o e => by
        have h1 := (HO3.out.lt _ e).1
        have h2 := lt_of_block (HB2.out _ _ (Ev.refl HE2.out.inv)).1
        simp at h1 h2
        omega
      exact (((HO3.out.mono (by have := HE2.out.size; simpa using this)).setCell (hne 0) _).setCell (hne 1) _).setCell (hne 2) _)

set_option maxRecDepth 100000 in
set_option maxHeartbeats 4000000 in
theorem like_yes (R : Reg) (w : World) (hI : Inv R w) (p v : Value) (s : List Nat) (root lone : Int) (hp : MapAt R p s root lone) (hv : FreeI R w v (toI s)) :
    Calls Try.prog 57 #[p, refV v root lone] w fun e w' => e = .returned (.bool true) ∧ Ev R w R w' := by
  obtain ⟨hS, hok⟩ := hp.ok hI
  have hn := hok.2.1
  obtain ⟨a0, cap0, rfl, hv0⟩ := hv.open
  rw [toI_length] at hv hv0 ⊢
  have HLs := Lib.hid (fun w' (he : Ev R w R w') => mlist_any R w' he.inv p s root lone (he.map hp))
  have HRt := Lib.hid (fun w' (he : Ev R w R w') => root_any R w' he.inv p s root lone (he.map hp))
  have HLn := Lib.hid (fun w' (he : Ev R w R w') => lone_any R w' he.inv p s root lone (he.map hp))
  have HEq := Lib.hid (fun w' (he : Ev R w R w') u (hu : Ints w' u (toI s)) => equal_any R w' he.inv u (.slice a0 s.length cap0) (toI s) (toI s) hu (hv.ev he).1 (by rw [toI_length]; omega) (by rw [toI_length]; omega))
  rw [eqL_true rfl] at HEq
  obtain ⟨b, rfl, hb⟩ := hp
  unfold refV
  have he1 : Ev R w R (w.alloc (.cells #[.slice a0 s.length cap0, .int .i64 root, .int .i64 lone] 27)) := (Ev.refl hI).alloc _
  have hn1 : R w.heap.size = none := hI.none_of_ge (Nat.le_refl _)
  have HB1 := Lib.hid (fun w' (h : Ev R (w.alloc (.cells #[.slice a0 s.length cap0, .int .i64 root, .int .i64 lone] 27)) R w') => h.box3 (heap_alloc_new w _) hn1)
  have HE1 := Lib.hid he1
  have g1 : (root == root) = true := by simp
  have g2 : (lone == lone) = true := by simp
  clear hI hS hok hb hv hv0 hn1
  go_enter Try.func57, Try.ntmps57
  go_upto_region 1 with fail
  have HEd := Lib.hid ((Ev.refl he1.inv).drew)
  obtain ⟨x0, x1, x2, _⟩ := box_cells (HB1.out _ HEd.out).1
  clear he1
  go_region_held3 (fun w' => w'.cell? ⟨w.heap.size, 0, none⟩ = some (.slice a0 s.length cap0) ∧ w'.cell? ⟨w.heap.size, 1, none⟩ = some (.int .i64 root) ∧ w'.cell? ⟨w.heap.size, 2, none⟩ = some (.int .i64 lone)) (exact ⟨x0, x1, x2⟩) (first
    | (go_at_call 50; refine (HLs.out _ (HE1.out.trans HEd.out)).mono ?_; rintro z w3 ⟨v3, rfl, he3, ho3⟩; have HO3 := Lib.hid ho3; have HEd := Lib.hid (HEd.out.trans he3); clear he3 ho3; obtain ⟨x0, x1, x2, _⟩ := box_cells (HB1.out _ HEd.out).1)
    | (go_at_call 49; refine (HEq.out _ (HE1.out.trans HEd.out) _ HO3.out.ints).mono ?_; rintro z w4 ⟨rfl, he4⟩; have HEd := Lib.hid (HEd.out.trans he4); clear he4; obtain ⟨x0, x1, x2, _⟩ := box_cells (HB1.out _ HEd.out).1)
    | (go_at_call 70; refine (HRt.out _ (HE1.out.trans HEd.out)).mono ?_; rintro z w' ⟨rfl, rfl⟩)
    | (go_at_call 62; refine (HLn.out _ (HE1.out.trans HEd.out)).mono ?_; rintro z w' ⟨rfl, rfl⟩))
  all_goals (go_wp2_with fail)
  all_goals go_ret
  all_goals exact ⟨rfl, HE1.out.trans HEd.out⟩

end Go.Proofs.Ytnbecpeiodcohaa

namespace Go.Proofs.Ytnbecpeiodcohaa
set_option linter.unusedVariables false

theorem orbitGo_map {s : List Nat} {i : Nat} : ∀ (f x : Nat), Reach s i f x → ∃ m, it s m x = i ∧ orbitGo s i f x = (List.range m).map (fun j => it s j x)
  | 0, x, h => by
    obtain ⟨j, hj, e⟩ := h
    obtain rfl : j = 0 := by omega
    exact ⟨0, e, rfl⟩
  | f + 1, x, h => by
    by_cases hx : x = i
    · subst hx; exact ⟨0, rfl, by rw [orbitGo_end]; rfl⟩
    · obtain ⟨f', hf, hr⟩ := h.next hx
      obtain rfl : f' = f := by omega
      obtain ⟨m, h1, h2⟩ := orbitGo_map f' (at' s x) hr
      refine ⟨m + 1, h1, ?_⟩
      rw [orbitGo_next hx, h2, List.range_succ_eq_map, List.map_cons, List.map_map]
      rfl
theorem orbitL_map {s : List Nat} (hs : IsPerm s) {i : Nat} (hi : i < s.length) : ∃ c, 0 < c ∧ it s c i = i ∧ orbitL s i = (List.range c).map (fun j => it s j i) := by
  obtain ⟨m, h1, h2⟩ := orbitGo_map s.length (at' s i) (hs.reach hi)
  refine ⟨m + 1, by omega, h1, ?_⟩
  show i :: orbitGo s i s.length (at' s i) = _
  rw [h2, List.range_succ_eq_map, List.map_cons, List.map_map]
  rfl
theorem way_itf {s : List Nat} {Q : Nat → Prop} {d a b : Nat} (hab : a < b) (hq : ∀ j, a < j → j < b → Q (itf (at' s) j d)) (hb : ¬ Q (itf (at' s) b d)) : Way s Q (itf (at' s) a d) (itf (at' s) b d) := by
  obtain ⟨k, rfl⟩ : ∃ k, b = a + 1 + k := ⟨b - a - 1, by omega⟩
  induction k generalizing a with
  | zero =>
    rw [Nat.add_zero] at hb ⊢
    rw [itf_succ] at hb ⊢
    exact .one hb
  | succ k ih =>
    have h1 := hq (a + 1) (by omega) (by omega)
    have e : a + 1 + (k + 1) = a + 1 + 1 + k := by omega
    rw [itf_succ] at h1
    refine .more h1 ?_
    rw [show at' s (itf (at' s) a d) = itf (at' s) (a + 1) d from (itf_succ _ _ _).symm, e]
    exact ih (by omega) (fun j h2 h3 => hq j (by omega) (by omega)) (by rw [← e]; exact hb)

/-- a vertex's darts from one on, without the edge's -/
def fromL (s : List Nat) (d e : Nat) : List Nat := (orbitL s d).filter fun x => !decide (x / 2 = e)
theorem mem_from {s : List Nat} {d e x : Nat} : x ∈ fromL s d e ↔ x ∈ orbitL s d ∧ ¬ x / 2 = e := by
  unfold fromL
  rw [List.mem_filter]
  simp
/-- who stands behind whom -/
def nextI (n i : Nat) : Nat := if i + 1 < n then i + 1 else 0
theorem from_next {s : List Nat} (hs : IsPerm s) {d e : Nat} (hd : d < s.length) {i : Nat} (hi : i < (fromL s d e).length) :
    Way s (fun x => x / 2 = e) ((fromL s d e).getD i 0) ((fromL s d e).getD (nextI (fromL s d e).length i) 0) := by
  obtain ⟨c, hc, hcd, ho⟩ := orbitL_map hs hd
  have e0 : fromL s d e = (srt (fun j => !decide (it s j d / 2 = e)) c).map (fun j => it s j d) := by
    unfold fromL srt
    rw [ho, List.filter_map]
    rfl
  obtain ⟨I, hI⟩ : ∃ I, srt (fun j => !decide (it s j d / 2 = e)) c = I := ⟨_, rfl⟩
  have hlen : (fromL s d e).length = I.length := by rw [e0, hI]; simp
  have hget : ∀ j, j < I.length → (fromL s d e).getD j 0 = itf (at' s) (I.getD j 0) d := fun j hj => by
    rw [e0, hI]
    simp [List.getD, hj, it_itf]
  rw [hlen] at hi ⊢
  have hmem : ∀ j, j < c → ¬ itf (at' s) j d / 2 = e → ∃ k, k < I.length ∧ I.getD k 0 = j := fun j hj hjo => by
    have := srt_idx (S := fun j => !decide (it s j d / 2 = e)) (P := c) hj (by rw [it_itf]; simp [hjo])
    rw [hI] at this
    exact ⟨_, this.1, this.2⟩
  have hin : ∀ k, k < I.length → I.getD k 0 < c ∧ ¬ itf (at' s) (I.getD k 0) d / 2 = e := fun k hk => by
    have := srt_get (S := fun j => !decide (it s j d / 2 = e)) (P := c) (i := k) (by rw [hI]; exact hk)
    rw [hI, it_itf] at this
    simpa using this
  have hlt : ∀ a b, a < I.length → b < I.length → (I.getD a 0 < I.getD b 0 ↔ a < b) := fun a b ha hb => by
    have := srt_lt_iff (S := fun j => !decide (it s j d / 2 = e)) (P := c) (i := a) (j := b) (by rw [hI]; exact ha) (by rw [hI]; exact hb)
    rwa [hI] at this
  unfold nextI
  by_cases h1 : i + 1 < I.length
  · rw [if_pos h1, hget i hi, hget (i + 1) h1]
    refine way_itf ((hlt _ _ hi h1).2 (by omega)) (fun j h2 h3 => ?_) (hin _ h1).2
    by_cases hj : itf (at' s) j d / 2 = e
    · exact hj
    · obtain ⟨k, hk, rfl⟩ := hmem j (by have := (hin _ h1).1; omega) hj
      have a := (hlt _ _ hi hk).1 h2
      have b := (hlt _ _ hk h1).1 h3
      omega
  · rw [if_neg h1, hget i hi, hget 0 (by omega)]
    have hI0 := hin 0 (by omega)
    have hcyc : ∀ j, itf (at' s) (c + j) d = itf (at' s) j d := fun j => by
      rw [itf_plus]
      rw [it_itf] at hcd
      rw [hcd]
    have hii := hin i hi
    rw [← hcyc (I.getD 0 0)]
    refine way_itf (by omega) (fun j h2 h3 => ?_) (by rw [hcyc]; exact hI0.2)
    by_cases hj : itf (at' s) j d / 2 = e
    · exact hj
    · by_cases hjc : j < c
      · obtain ⟨k, hk, rfl⟩ := hmem j hjc hj
        have := (hlt _ _ hi hk).1 h2
        omega
      · obtain ⟨j', rfl⟩ : ∃ j', j = c + j' := ⟨j - c, by omega⟩
        rw [hcyc] at hj
        obtain ⟨k, hk, e3⟩ := hmem j' (by omega) hj
        have : ¬ k < 0 := by omega
        have h5 : I.getD k 0 < I.getD 0 0 := by omega
        have := (hlt _ _ hk (by omega)).1 h5
        omega

/-- the pairs of darts that stand behind one another, list by list, are laid into a row -/
def layV (e : Nat) (v : List Nat) (S : List Nat) : List Nat := (List.range v.length).foldl (fun S i => S.set (nmL e (v.getD i 0)) (nmL e (v.getD (nextI v.length i) 0))) S
theorem foldl_lay {T : List Nat} {p q : Nat → Nat} : ∀ (k : Nat) (S : List Nat), S.length = T.length → (∀ i, i < k → p i < T.length → q i = at' T (p i)) →
    ((List.range k).foldl (fun S i => S.set (p i) (q i)) S).length = T.length ∧ ∀ j, j < T.length → at' ((List.range k).foldl (fun S i => S.set (p i) (q i)) S) j = if (∃ i, i < k ∧ p i = j) then at' T j else at' S j
  | 0, S, hl, _ => ⟨hl, fun j hj => by rw [if_neg (fun ⟨i, hi, _⟩ => by omega)]; rfl⟩
  | k + 1, S, hl, h => by
    obtain ⟨h1, h2⟩ := foldl_lay k S hl fun i hi => h i (by omega)
    rw [List.range_succ, List.foldl_append]
    refine ⟨by simp [h1], fun j hj => ?_⟩
    show at' (List.set _ _ _) j = _
    have hset : ∀ (L : List Nat) (a b j : Nat), j < L.length → at' (L.set a b) j = if a = j then b else at' L j := fun L a b j hj => by
      unfold at'
      simp only [List.getD_eq_getElem?_getD, List.getElem?_set]
      by_cases e : a = j
      · subst e; simp [hj]
      · simp [e]
    rw [hset _ _ _ _ (by rw [h1]; exact hj), h2 j hj]
    by_cases e : p k = j
    · rw [if_pos e, if_pos ⟨k, by omega, e⟩, h k (by omega) (by rw [e]; exact hj), e]
    · rw [if_neg e]
      by_cases hex : ∃ i, i < k ∧ p i = j
      · obtain ⟨i, hi, hp⟩ := hex
        rw [if_pos ⟨i, hi, hp⟩, if_pos ⟨i, by omega, hp⟩]
      · rw [if_neg hex, if_neg]
        rintro ⟨i, hi, hp⟩
        rcases Nat.lt_or_eq_of_le (Nat.le_of_lt_succ hi) with h3 | h3
        · exact hex ⟨i, h3, hp⟩
        · subst h3; exact e hp

end Go.Proofs.Ytnbecpeiodcohaa

namespace Go.Proofs.Ytnbecpeiodcohaa
set_option linter.unusedVariables false

theorem layV_spec {t : List Nat} (ht : IsPerm t) {e : Nat} (hn : 2 * e + 2 ≤ t.length) {d : Nat} (hd : d < t.length) {S : List Nat} (hS : S.length = t.length - 2) :
    (layV e (fromL t d e) S).length = t.length - 2 ∧ ∀ j, j < t.length - 2 → at' (layV e (fromL t d e) S) j = if unL e j ∈ fromL t d e then at' (doneL t e) j else at' S j := by
  have hget : ∀ i, i < (fromL t d e).length → (fromL t d e).getD i 0 ∈ fromL t d e := fun i hi => by
    rw [getD_lt hi]; exact List.getElem_mem hi
  have hlt : ∀ x, x ∈ fromL t d e → x < t.length ∧ ¬ x / 2 = e := fun x hx => ⟨orbitL_lt ht hd x (mem_from.1 hx).1, (mem_from.1 hx).2⟩
  have h := foldl_lay (T := doneL t e) (p := fun i => nmL e ((fromL t d e).getD i 0)) (q := fun i => nmL e ((fromL t d e).getD (nextI (fromL t d e).length i) 0)) (fromL t d e).length S (by rw [doneL_length]; exact hS) (fun i hi hp => by
    obtain ⟨h1, h2⟩ := hlt _ (hget i hi)
    have hw := from_next ht hd hi
    have hl2 : nmL e ((fromL t d e).getD i 0) < t.length - 2 := nmL_lt hn h2 h1
    rw [doneL_at hl2, un_nm h2]
    exact congrArg (nmL e) (hw.same (pass_way ht h1 h2)))
  rw [doneL_length] at h
  refine ⟨h.1, fun j hj => ?_⟩
  rw [show at' (layV e (fromL t d e) S) j = _ from h.2 j hj]
  by_cases hm : unL e j ∈ fromL t d e
  · obtain ⟨i, hi, e1⟩ := List.getElem_of_mem hm
    rw [if_pos hm, if_pos ⟨i, hi, by show nmL e ((fromL t d e).getD i 0) = j; rw [getD_lt hi, e1, nm_un]⟩]
  · rw [if_neg hm, if_neg]
    rintro ⟨i, hi, e1⟩
    apply hm
    have h1 := hget i hi
    have e2 : nmL e ((fromL t d e).getD i 0) = j := e1
    rw [← e2, un_nm (hlt _ h1).2]
    exact h1
def layAll (e : Nat) (xss : List (List Nat)) (S : List Nat) : List Nat := xss.foldl (fun S v => layV e v S) S
theorem layAll_spec {t : List Nat} (ht : IsPerm t) {e : Nat} (hn : 2 * e + 2 ≤ t.length) : ∀ (ds : List Nat) (S : List Nat), (∀ d, d ∈ ds → d < t.length) → S.length = t.length - 2 →
    (layAll e (ds.map fun d => fromL t d e) S).length = t.length - 2 ∧ ∀ j, j < t.length - 2 → at' (layAll e (ds.map fun d => fromL t d e) S) j = if (∃ d, d ∈ ds ∧ unL e j ∈ fromL t d e) then at' (doneL t e) j else at' S j
  | [], S, _, hS => ⟨hS, fun j hj => by rw [if_neg (fun ⟨d, hd, _⟩ => by cases hd)]; rfl⟩
  | d :: ds, S, h, hS => by
    obtain ⟨h1, h2⟩ := layV_spec ht hn (h d List.mem_cons_self) hS
    obtain ⟨h3, h4⟩ := layAll_spec ht hn ds (layV e (fromL t d e) S) (fun x hx => h x (List.mem_cons_of_mem _ hx)) h1
    refine ⟨h3, fun j hj => ?_⟩
    rw [show at' (layAll e ((d :: ds).map fun d => fromL t d e) S) j = _ from h4 j hj, h2 j hj]
    by_cases hx : ∃ d', d' ∈ ds ∧ unL e j ∈ fromL t d' e
    · obtain ⟨d', hd', hm⟩ := hx
      rw [if_pos ⟨d', hd', hm⟩, if_pos ⟨d', List.mem_cons_of_mem _ hd', hm⟩]
    · rw [if_neg hx]
      by_cases hm : unL e j ∈ fromL t d e
      · rw [if_pos hm, if_pos ⟨d, List.mem_cons_self, hm⟩]
      · rw [if_neg hm, if_neg]
        rintro ⟨d', hd', hm'⟩
        rcases List.mem_cons.1 hd' with rfl | hd'
        · exact hm hm'
        · exact hx ⟨d', hd', hm'⟩
/-- lists that have each dart that is left -/
theorem layAll_done {t : List Nat} (ht : IsPerm t) {e : Nat} (hn : 2 * e + 2 ≤ t.length) {ds : List Nat} (hds : ∀ d, d ∈ ds → d < t.length) (hall : ∀ x, x < t.length → ¬ x / 2 = e → ∃ d, d ∈ ds ∧ x ∈ orbitL t d) :
    layAll e (ds.map fun d => fromL t d e) (List.replicate (t.length - 2) 0) = doneL t e := by
  obtain ⟨h1, h2⟩ := layAll_spec ht hn ds (List.replicate (t.length - 2) 0) hds (by simp)
  refine eq_at (by rw [h1, doneL_length]) fun j hj => ?_
  rw [h1] at hj
  obtain ⟨d, hd, hx⟩ := hall (unL e j) (unL_lt hn hj) unL_own
  rw [h2 j hj, if_pos ⟨d, hd, mem_from.2 ⟨hx, unL_own⟩⟩]

/-- of a vertex that the edge isn't at all are left -/
theorem from_all {s : List Nat} {d e : Nat} (h : ∀ x, x ∈ orbitL s d → ¬ x / 2 = e) : fromL s d e = orbitL s d := by
  unfold fromL
  rw [List.filter_eq_self]
  intro x hx
  simp [h x hx]
theorem orbit_step {s : List Nat} (hs : IsPerm s) {i : Nat} (hi : i < s.length) {m : Nat} (h0 : it s (m + 1) i = i) (h1 : ∀ j, 0 < j → j ≤ m → it s j i ≠ i) : orbitL s i = (List.range (m + 1)).map (fun j => it s j i) := by
  obtain ⟨c, hc, hcd, ho⟩ := orbitL_map hs hi
  rw [ho]
  have hn := orbitL_nodup hs hi
  rw [ho] at hn
  have hle : c ≤ m + 1 := by
    rcases Nat.lt_or_ge (m + 1) c with h | h
    · exfalso
      have := (List.pairwise_map.1 hn)
      have h2 := List.pairwise_iff_getElem.1 this 0 (m + 1) (by simp; omega) (by simpa using h) (by omega)
      simp only [List.getElem_range] at h2
      exact h2 h0.symm
    · exact h
  have hge : m + 1 ≤ c := by
    rcases Nat.lt_or_ge c (m + 1) with h | h
    · exact absurd hcd (h1 c hc (by omega))
    · exact h
  rw [show c = m + 1 by omega]
/-- where the two vertices of the edge are one, its darts are the one's and the other's -/
theorem from_join {s : List Nat} (hs : IsPerm s) {e : Nat} (hn : 2 * e + 2 ≤ s.length) (hne : nth (namesL s) (2 * e) ≠ nth (namesL s) (2 * e + 1)) : fromL (exL s e) (2 * e) e = fromL s (2 * e + 1) e ++ fromL s (2 * e) e := by
  have hA : 2 * e < s.length := by omega
  have hB : 2 * e + 1 < s.length := by omega
  have nn := ex_not hs hn hne
  have hq := hs.pm.per
  have hp := exL_perm hs hn
  have hl := exL_length s e
  obtain ⟨a, ha, had, hoa⟩ := orbitL_map hs hA
  obtain ⟨b, hb, hbd, hob⟩ := orbitL_map hs hB
  have cyA : ∀ j, cyc s.length (at' s) (2 * e) (it s j (2 * e)) := fun j => ⟨hA, by rw [it_itf]; exact hs.pm.it hA j, j, (it_itf s j _).symm⟩
  have cyB : ∀ j, cyc s.length (at' s) (2 * e + 1) (it s j (2 * e + 1)) := fun j => ⟨hB, by rw [it_itf]; exact hs.pm.it hB j, j, (it_itf s j _).symm⟩
  have noA : ∀ j, 0 < j → j < a → it s j (2 * e) ≠ 2 * e := fun j h0 h1 h => by
    have hnd := orbitL_nodup hs hA
    rw [hoa] at hnd
    have h2 := List.pairwise_iff_getElem.1 (List.pairwise_map.1 hnd) 0 j (by simp; omega) (by simpa using h1) h0
    simp only [List.getElem_range] at h2
    exact h2 h.symm
  have noB : ∀ j, 0 < j → j < b → it s j (2 * e + 1) ≠ 2 * e + 1 := fun j h0 h1 h => by
    have hnd := orbitL_nodup hs hB
    rw [hob] at hnd
    have h2 := List.pairwise_iff_getElem.1 (List.pairwise_map.1 hnd) 0 j (by simp; omega) (by simpa using h1) h0
    simp only [List.getElem_range] at h2
    exact h2 h.symm
  have AB : ∀ j, it s j (2 * e) ≠ 2 * e + 1 := fun j h => nn (by have := cyA j; rwa [h] at this)
  have BA : ∀ j, it s j (2 * e + 1) ≠ 2 * e := fun j h => nn (hq.symm (by have := cyB j; rwa [h] at this))
  have ownA : ∀ j, 0 < j → j < a → ¬ it s j (2 * e) / 2 = e := fun j h0 h1 h => by have h2 := noA j h0 h1; have h3 := AB j; omega
  have ownB : ∀ j, 0 < j → j < b → ¬ it s j (2 * e + 1) / 2 = e := fun j h0 h1 h => by have h2 := noB j h0 h1; have h3 := BA j; omega
  have succ_it : ∀ (u : List Nat) j x, it u (j + 1) x = at' u (it u j x) := fun u j x => by rw [it_itf, it_itf, itf_succ]
  have tstep : ∀ x, x < s.length → at' (exL s e) x = at' s (exI e x) := fun x hx => exL_at hx
  -- along the merged vertex
  have t1 : ∀ j, 0 < j → j ≤ b → it (exL s e) j (2 * e) = it s j (2 * e + 1) := fun j => by
    induction j with
    | zero => intro h; omega
    | succ j ih =>
      intro _ hj
      rw [succ_it, succ_it s]
      by_cases h0 : j = 0
      · subst h0
        show at' (exL s e) (2 * e) = at' s (2 * e + 1)
        rw [tstep _ hA]
        unfold exI
        rw [if_neg (by omega), if_pos rfl]
      · rw [ih (by omega) (by omega), tstep _ (hq.cod (cyB j)), exI_else (ownB j (by omega) (by omega))]
  have t2 : ∀ j, 0 < j → j ≤ a → it (exL s e) (b + j) (2 * e) = it s j (2 * e) := fun j => by
    induction j with
    | zero => intro h; omega
    | succ j ih =>
      intro _ hj
      rw [show b + (j + 1) = (b + j) + 1 by omega, succ_it, succ_it s]
      by_cases h0 : j = 0
      · subst h0
        rw [Nat.add_zero, t1 b hb (Nat.le_refl _), hbd, tstep _ hB]
        unfold exI
        rw [if_pos rfl]
        rfl
      · rw [ih (by omega) (by omega), tstep _ (hq.cod (cyA j)), exI_else (ownA j (by omega) (by omega))]
  have hob' : orbitL (exL s e) (2 * e) = (List.range (b + a)).map (fun j => it (exL s e) j (2 * e)) := by
    have h0 := t2 a ha (Nat.le_refl _)
    rw [had] at h0
    have := orbit_step hp (i := 2 * e) (by rw [hl]; exact hA) (m := b + a - 1) (by rw [show b + a - 1 + 1 = b + a by omega]; exact h0) (fun j h1 h2 h => by
      by_cases hj : j ≤ b
      · rw [t1 j h1 hj] at h
        exact BA j h
      · obtain ⟨k, rfl⟩ : ∃ k, j = b + k := ⟨j - b, by omega⟩
        rw [t2 k (by omega) (by omega)] at h
        exact noA k (by omega) (by omega) h)
    rwa [show b + a - 1 + 1 = b + a by omega] at this
  -- each part, its first dart left out
  have part : ∀ (u : List Nat) (x c : Nat), 0 < c → x / 2 = e → (∀ j, 0 < j → j < c → ¬ it u j x / 2 = e) → ((List.range c).map (fun j => it u j x)).filter (fun x => !decide (x / 2 = e)) = (List.range (c - 1)).map (fun j => it u (j + 1) x) := fun u x c hc hx ho => by
    obtain ⟨k, rfl⟩ : ∃ k, c = k + 1 := ⟨c - 1, by omega⟩
    rw [List.range_succ_eq_map, List.map_cons, List.map_map, List.filter_cons, if_neg (by show ¬ (!decide (it u 0 x / 2 = e)) = true; simp [it, hx]), Nat.add_sub_cancel]
    rw [List.filter_eq_self.2]
    · rfl
    · intro y hy
      obtain ⟨j, hj, rfl⟩ := List.mem_map.1 hy
      have := ho (j + 1) (by omega) (by have := List.mem_range.1 hj; omega)
      simpa using this
  have pA := part s (2 * e) a ha (by omega) ownA
  have pB := part s (2 * e + 1) b hb (by omega) ownB
  unfold fromL
  rw [hoa, hob, hob', pA, pB, List.range_add, List.map_append, List.filter_append]
  congr 1
  · have e0 : (List.range (b - 1)).map (fun j => it (exL s e) (j + 1) (2 * e)) = (List.range (b - 1)).map (fun j => it s (j + 1) (2 * e + 1)) := List.map_congr_left fun j hj => t1 (j + 1) (by omega) (by have := List.mem_range.1 hj; omega)
    rw [← e0]
    exact part (exL s e) (2 * e) b hb (by omega) fun j h0 h1 => by rw [t1 j h0 (by omega)]; exact ownB j h0 h1
  · rw [List.map_map]
    have e1 : ((List.range a).map ((fun j => it (exL s e) j (2 * e)) ∘ fun x => b + x)) = (List.range a).map (fun j => if j = 0 then 2 * e + 1 else it s j (2 * e)) := by
      refine List.map_congr_left fun j hj => ?_
      have hja := List.mem_range.1 hj
      show it (exL s e) (b + j) (2 * e) = _
      by_cases h0 : j = 0
      · subst h0; rw [if_pos rfl, Nat.add_zero, t1 b hb (Nat.le_refl _), hbd]
      · rw [if_neg h0, t2 j (by omega) (by omega)]
    rw [e1]
    obtain ⟨k, rfl⟩ : ∃ k, a = k + 1 := ⟨a - 1, by omega⟩
    rw [List.range_succ_eq_map, List.map_cons, List.map_map, List.filter_cons, if_neg (show ¬ (!decide ((if (0 : Nat) = 0 then 2 * e + 1 else it s 0 (2 * e)) / 2 = e)) = true by rw [if_pos rfl]; simp; omega), Nat.add_sub_cancel]
    rw [List.filter_eq_self.2]
    · refine List.map_congr_left fun j hj => ?_
      show (if j + 1 = 0 then 2 * e + 1 else it s (j + 1) (2 * e)) = it s (j + 1) (2 * e)
      rw [if_neg (by omega)]
    · intro y hy
      obtain ⟨j, hj, rfl⟩ := List.mem_map.1 hy
      have h1 := ownA (j + 1) (by omega) (by have := List.mem_range.1 hj; omega)
      show (!decide ((if j + 1 = 0 then 2 * e + 1 else it s (j + 1) (2 * e)) / 2 = e)) = true
      rw [if_neg (by omega)]
      simpa using h1

end Go.Proofs.Ytnbecpeiodcohaa
