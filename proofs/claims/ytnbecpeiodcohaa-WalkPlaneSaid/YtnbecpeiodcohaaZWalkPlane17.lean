/- Classes carried by a one-to-one map; the walk's positions: its mates, and what the map's turns are on them. Conditions: none. A part lies in the plane just if the walk's square pairs do not cross; its round ones never do. Conditions: none. The parts of a map, by labels that sink till nothing changes. Conditions: none. -/
import Derived.Test.YtnbecpeiodcohaaZWalkPlane16
import Derived.Test.YtnbecpeiodcohaaZWalkPlane10
import Derived.Test.YtnbecpeiodcohaaZWalkPlane15
namespace Go.Proofs.Ytnbecpeiodcohaa
set_option linter.unusedVariables false

section
variable {p n : Nat} {r q : Nat → Nat → Prop} {P : Nat → Prop} (hr : Per p r) (hq : Per n q) (f : Nat → Nat)
  (hf : ∀ x, x < p → f x < n ∧ P (f x)) (hb : ∀ y, y < n → P y → ∃ x, x < p ∧ f x = y) (hP : ∀ x y, P x → q x y → P y) (hrq : ∀ x y, x < p → y < p → (r x y ↔ q (f x) (f y)))
include hr hq hf hb hP hrq

/-- as many classes there as here -/
theorem cls_map : cls r (fun _ => True) p = cls q P n := by
  have hx : ∀ x, ∃ l, x < p → q l (f x) ∧ Least q l := fun x => by
    by_cases h : x < p
    · obtain ⟨l, _, h1, h2⟩ := hq.least (f x) (hf x h).1
      exact ⟨l, fun _ => ⟨h1, h2⟩⟩
    · exact ⟨0, fun h' => absurd h' h⟩
  have hy : ∀ y, ∃ l, y < n → P y → ∃ x, x < p ∧ f x = y ∧ r l x ∧ Least r l := fun y => by
    by_cases h : y < n ∧ P y
    · obtain ⟨x, h1, h2⟩ := hb y h.1 h.2
      obtain ⟨l, _, h3, h4⟩ := hr.least x h1
      exact ⟨l, fun _ _ => ⟨x, h1, h2, h3, h4⟩⟩
    · exact ⟨0, fun h1 h2 => absurd ⟨h1, h2⟩ h⟩
  refine Nat.le_antisymm ?_ ?_
  · refine tally_inj (fun x => Classical.choose (hx x)) (fun x hxp _ => ?_) (fun x y hxp hyp h1 h2 e => ?_)
    · obtain ⟨h1, h2⟩ := Classical.choose_spec (hx x) hxp
      exact ⟨hq.dom h1, hP _ _ (hf x hxp).2 (hq.symm h1), h2⟩
    · have e : Classical.choose (hx x) = Classical.choose (hx y) := e
      have a := (Classical.choose_spec (hx x) hxp).1
      have b := (Classical.choose_spec (hx y) hyp).1
      rw [e] at a
      exact hr.least_one h1.2 h2.2 ((hrq x y hxp hyp).2 (hq.trans (hq.symm a) b))
  · refine tally_inj (fun y => Classical.choose (hy y)) (fun y hyn h => ?_) (fun y z hyn hzn h1 h2 e => ?_)
    · obtain ⟨x, h1, h2, h3, h4⟩ := Classical.choose_spec (hy y) hyn h.1
      exact ⟨hr.dom h3, trivial, h4⟩
    · have e : Classical.choose (hy y) = Classical.choose (hy z) := e
      obtain ⟨x, a1, a2, a3, _⟩ := Classical.choose_spec (hy y) hyn h1.1
      obtain ⟨x', b1, b2, b3, _⟩ := Classical.choose_spec (hy z) hzn h2.1
      rw [e] at a3
      have h := (hrq x x' a1 b1).1 (hr.trans (hr.symm a3) b3)
      rw [a2, b2] at h
      exact hq.least_one h1.2 h2.2 h
end

theorem itf_map {p : Nat} {g F f : Nat → Nat} (hg : ∀ x, x < p → g x < p) (h : ∀ x, x < p → F (f x) = f (g x)) : ∀ {j x : Nat}, x < p → itf F j (f x) = f (itf g j x) ∧ itf g j x < p
  | 0, x, hx => ⟨rfl, hx⟩
  | j + 1, x, hx => by
    obtain ⟨h1, h2⟩ := itf_map hg h (j := j) hx
    rw [itf_succ, itf_succ, h1]
    exact ⟨h _ h2, hg _ h2⟩
theorem cyc_map {p n : Nat} {g F f : Nat → Nat} (hg : ∀ x, x < p → g x < p) (h : ∀ x, x < p → F (f x) = f (g x)) (hn : ∀ x, x < p → f x < n) (hi : ∀ x y, x < p → y < p → f x = f y → x = y) {x y : Nat} (hx : x < p) (hy : y < p) : cyc p g x y ↔ cyc n F (f x) (f y) := by
  constructor
  · rintro ⟨_, _, j, e⟩
    exact ⟨hn x hx, hn y hy, j, by rw [(itf_map hg h hx).1, e]⟩
  · rintro ⟨_, _, j, e⟩
    obtain ⟨h1, h2⟩ := itf_map hg h (j := j) hx
    exact ⟨hx, hy, j, hi _ _ h2 hy (by rw [← h1, e])⟩

/-- the position of a position's mate -/
noncomputable def wm (s : List Nat) (V root j : Nat) : Nat := ((List.range (partC' s root)).map (wd s V root)).idxOf (wd s V root j ^^^ 1)
def sortP (s : List Nat) (V root k j : Nat) : Prop := wk s V root j / 2 = k

section
variable {s : List Nat} (hs : IsPerm s) (he : s.length % 2 = 0) {V root : Nat} (hr : root < s.length) (hV : (sizesL s).length ≤ V)
include hs he hr hV

theorem wd_lt (j : Nat) : wd s V root j < s.length := (winv hs he hr hV j).lt j (Nat.le_refl _)
theorem wd_inj {i j : Nat} (hi : i < partC' s root) (hj : j < partC' s root) (e : wd s V root i = wd s V root j) : i = j := by
  obtain ⟨hp, h0, hmin⟩ := wlen hs he hr hV
  rcases Nat.lt_trichotomy i j with k | k | k
  · exact absurd e (wdist hs he hr hV hp hmin k hj)
  · exact k
  · exact absurd e.symm (wdist hs he hr hV hp hmin k hi)
theorem wd_all (x : Nat) : Con s root x ↔ ∃ j, j < partC' s root ∧ wd s V root j = x := by
  obtain ⟨hp, h0, hmin⟩ := wlen hs he hr hV
  exact wall hs he hr hV h0 hp hmin x
theorem wm_spec {j : Nat} (hj : j < partC' s root) : wm s V root j < partC' s root ∧ wd s V root (wm s V root j) = wd s V root j ^^^ 1 := by
  obtain ⟨i, hi, _, e, _⟩ := wpair hs he hr hV hj
  have hmem : (wd s V root j ^^^ 1) ∈ (List.range (partC' s root)).map (wd s V root) := List.mem_map.2 ⟨i, List.mem_range.2 hi, e⟩
  have h := List.idxOf_lt_length_of_mem hmem
  have hg := List.getElem_idxOf h
  have hl : wm s V root j < partC' s root := by
    have h := h
    rw [List.length_map, List.length_range] at h
    exact h
  refine ⟨hl, ?_⟩
  rw [List.getElem_map, List.getElem_range] at hg
  exact hg
theorem wm_eq {j i : Nat} (hj : j < partC' s root) (hi : i < partC' s root) (e : wd s V root i = wd s V root j ^^^ 1) : wm s V root j = i := by
  obtain ⟨h1, h2⟩ := wm_spec hs he hr hV hj
  exact wd_inj hs he hr hV h1 hi (by rw [h2, e])
/-- of a pair the first is an opening one, of the same sort -/
theorem wm_pair {j : Nat} (hj : j < partC' s root) : wm s V root (wm s V root j) = j ∧ wm s V root j ≠ j ∧ wk s V root (wm s V root j) / 2 = wk s V root j / 2 ∧ (wk s V root j % 2 = 0 ↔ j < wm s V root j) := by
  obtain ⟨h1, h2⟩ := wm_spec hs he hr hV hj
  obtain ⟨i, hi, hne, e, k1, k2⟩ := wpair hs he hr hV hj
  have em := wm_eq hs he hr hV hj hi e
  rw [em]
  have e2 : wm s V root i = j := wm_eq hs he hr hV hi hj (by rw [e, xor_one_one])
  have hk := wk_le s V root j
  have hk' := wk_le s V root i
  refine ⟨e2, hne, ?_, ?_⟩
  · rcases Nat.lt_or_ge j i with h | h
    · have := k1 h; omega
    · have := k2 (by omega); omega
  · constructor
    · intro h
      rcases Nat.lt_or_ge j i with h' | h'
      · exact h'
      · have := k2 (by omega); omega
    · intro h
      have := k1 h; omega
theorem wm_pmatch (k : Nat) : PMatch (partC' s root) (fun j => decide (wk s V root j / 2 = k)) (wm s V root) where
  lt j hj := (wm_spec hs he hr hV hj).1
  inv j hj := (wm_pair hs he hr hV hj).1
  ne j hj := (wm_pair hs he hr hV hj).2.1
  same j hj := by rw [(wm_pair hs he hr hV hj).2.2.1]
theorem wm_chords (k : Nat) : Chords (partC' s root) (sortP s V root k) (wm s V root) where
  lt j hj _ := (wm_spec hs he hr hV hj).1
  of j hj h := by show _ / 2 = k; rw [(wm_pair hs he hr hV hj).2.2.1]; exact h
  inv j hj _ := (wm_pair hs he hr hV hj).1
  ne j hj _ := (wm_pair hs he hr hV hj).2.1
/-- the step to the next position, around -/
theorem wd_rot {j : Nat} (hj : j < partC' s root) : wd s V root (rot (partC' s root) j) = at' s (if wk s V root j < 2 then wd s V root j ^^^ 1 else wd s V root j) := by
  obtain ⟨hp, h0, hmin⟩ := wlen hs he hr hV
  have e : wd s V root (j + 1) = at' s (if wk s V root j < 2 then wd s V root j ^^^ 1 else wd s V root j) := rfl
  rw [← e]
  unfold rot
  split
  · rfl
  · rw [show j + 1 = partC' s root by omega, hp]
    rfl
/-- around a vertex: the round chords; around a face: the square ones -/
theorem wd_turn {j : Nat} (hj : j < partC' s root) : at' s (wd s V root j) = wd s V root (chf (partC' s root) (sortP s V root 0) (wm s V root) (partC' s root) j) ∧ at' s (wd s V root j ^^^ 1) = wd s V root (chf (partC' s root) (sortP s V root 1) (wm s V root) (partC' s root) j) := by
  obtain ⟨h1, h2⟩ := wm_spec hs he hr hV hj
  have h3 := (wm_pair hs he hr hV hj).2.2.1
  have hk := wk_le s V root j
  unfold chf
  constructor
  · by_cases h : wk s V root j / 2 = 0
    · rw [chb_in (Q := sortP s V root 0) (m := wm s V root) ⟨h, hj, h1⟩, wd_rot hs he hr hV h1, if_pos (by omega), h2, xor_one_one]
    · rw [chb_out (Q := sortP s V root 0) (m := wm s V root) fun h' => h h'.1, wd_rot hs he hr hV hj, if_neg (by omega)]
  · by_cases h : wk s V root j / 2 = 1
    · rw [chb_in (Q := sortP s V root 1) (m := wm s V root) ⟨h, hj, h1⟩, wd_rot hs he hr hV h1, if_neg (by omega), h2]
    · rw [chb_out (Q := sortP s V root 1) (m := wm s V root) fun h' => h h'.1, wd_rot hs he hr hV hj, if_pos (by omega)]
end
end Go.Proofs.Ytnbecpeiodcohaa

namespace Go.Proofs.Ytnbecpeiodcohaa
set_option linter.unusedVariables false

section
variable {s : List Nat} (hs : IsPerm s) (he : s.length % 2 = 0) {V root : Nat} (hr : root < s.length) (hV : (sizesL s).length ≤ V)
include hs he hr hV

theorem wd_part {y : Nat} (hy : y < s.length) : nth (partsL s) y = nth (partsL s) root ↔ ∃ j, j < partC' s root ∧ wd s V root j = y := by
  rw [(partsL_ord hs he).rel y root hy hr, ← wd_all hs he hr hV]
  exact ⟨fun h => (Con.per hs).symm h, fun h => (Con.per hs).symm h⟩

/-- the part's turns, counted on the walk's positions -/
theorem wturns {t : List Nat} (ht : IsPerm t) (hl : t.length = s.length) {g : Nat → Nat} (hg : Pm (partC' s root) g) (h : ∀ j, j < partC' s root → at' t (wd s V root j) = wd s V root (g j)) : cls (cyc (partC' s root) g) (fun _ => True) (partC' s root) = vcnt t (partsL s) (nth (partsL s) root) s.length := by
  rw [vcnt_tally ht _ _ (by omega)]
  have hlt : ∀ x, x < partC' s root → g x < partC' s root := fun x hx => hg.1 hx
  have hcl : ∀ x y, nth (partsL s) x = nth (partsL s) root → cyc t.length (at' t) x y → nth (partsL s) y = nth (partsL s) root := by
    rintro x y hp ⟨hx, hy, i, e⟩
    rw [hl] at hx hy
    obtain ⟨j, hj, rfl⟩ := (wd_part hs he hr hV hx).1 hp
    rw [(itf_map hlt h hj).1] at e
    exact (wd_part hs he hr hV hy).2 ⟨_, (itf_map hlt h hj).2, e⟩
  have hq : Per s.length (cyc t.length (at' t)) := by
    have h := ht.pm.per
    rwa [show Per t.length = Per s.length by rw [hl]] at h
  refine cls_map hg.per hq (wd s V root) (fun x hx => ⟨wd_lt hs he hr hV x, (wd_part hs he hr hV (wd_lt hs he hr hV x)).2 ⟨x, hx, rfl⟩⟩) (fun y hy hp => (wd_part hs he hr hV hy).1 hp) hcl fun x y hx hy => ?_
  rw [hl]
  exact cyc_map hlt h (fun x _ => wd_lt hs he hr hV x) (fun x y hx hy => wd_inj hs he hr hV hx hy) hx hy

theorem wclose (k : Nat) (hk : k < 2) : tally (fun i => sortP s V root k i ∧ wm s V root i < i) (partC' s root) = wcnt s V root (2 * k + 1) (partC' s root) := by
  rw [wcnt_tally]
  refine tally_congr fun i hi => ?_
  obtain ⟨_, h2, _, h4⟩ := wm_pair hs he hr hV hi
  have hwk := wk_le s V root i
  show wk s V root i / 2 = k ∧ _ ↔ _
  constructor
  · rintro ⟨a, b⟩
    have : ¬ wk s V root i % 2 = 0 := fun h => by have := h4.1 h; omega
    omega
  · intro h
    have : ¬ i < wm s V root i := fun h' => by have := h4.2 h'; omega
    omega

theorem wplane {k : Nat} (hk : k < partsN s) (e : nth (partsL s) root = (k : Int)) : NcTo (partC' s root) (sortP s V root 0) (wm s V root) (partC' s root) ∧ (genOf s (partsL s) k = 0 ↔ NcTo (partC' s root) (sortP s V root 1) (wm s V root) (partC' s root)) := by
  obtain ⟨_, h0, _⟩ := wlen hs he hr hV
  have hv := wturns hs he hr hV hs rfl (chf_pm (wm_chords hs he hr hV 0) (Nat.le_refl _)) fun j hj => (wd_turn hs he hr hV hj).1
  have hf := wturns hs he hr hV (phiL_perm hs he) (phiL_length s) (chf_pm (wm_chords hs he hr hV 1) (Nat.le_refl _)) fun j hj => by
    rw [phiL_at (wd_lt hs he hr hV j)]
    exact (wd_turn hs he hr hV hj).2
  have c0 := chords_nc (wm_chords hs he hr hV 0) h0
  have c1 := chords_nc (wm_chords hs he hr hV 1) h0
  rw [hv, wclose hs he hr hV 0 (by omega)] at c0
  rw [hf, wclose hs he hr hV 1 (by omega)] at c1
  have ht := wtree hs he hr hV
  have hb := wbal hs he hr hV
  have ha := wcnt_all s V root (partC' s root)
  have hp := wpart hs he hr hV
  obtain ⟨g0, hg⟩ := genOf_euler hs he hk
  have h4 := edges_tally (s := s) (k : Int) (fun x hx => partsL_mate hs he hx) (e := s.length / 2) (by omega)
  rw [show 2 * (s.length / 2) = s.length by omega] at h4
  rw [e] at c0 c1 ht hp
  refine ⟨c0.1 (by show _ = wcnt s V root 1 _ + 1; omega), ?_⟩
  rw [← c1]
  show _ ↔ _ = wcnt s V root 3 _ + 1
  omega
end
end Go.Proofs.Ytnbecpeiodcohaa

namespace Go.Proofs.Ytnbecpeiodcohaa
set_option linter.unusedVariables false

def sumL : List Nat → Nat
  | [] => 0
  | x :: l => x + sumL l
theorem sumL_set : ∀ {L : List Nat} {i y : Nat}, i < L.length → sumL (L.set i y) + at' L i = sumL L + y
  | x :: l, 0, y, _ => by simp [sumL, at']; omega
  | x :: l, i + 1, y, h => by
    have := sumL_set (L := l) (i := i) (y := y) (by simpa using h)
    simp [sumL, at'] at this ⊢
    omega

/-- labels, that are not above, and of the same part -/
structure LInv (s : List Nat) (L : List Nat) : Prop where
  len : L.length = s.length
  le : ∀ d, d < s.length → at' L d ≤ d
  con : ∀ d, d < s.length → Con s (at' L d) d

theorem LInv.start {s : List Nat} (hs : IsPerm s) : LInv s (List.range s.length) := by
  have key : ∀ d, d < s.length → at' (List.range s.length) d = d := fun d hd => by simp [at', hd]
  exact ⟨by simp, fun d hd => by rw [key d hd]; exact Nat.le_refl _, fun d hd => by rw [key d hd]; exact (Con.per hs).refl hd⟩

theorem LInv.sink {s : List Nat} (hs : IsPerm s) {L : List Nat} (h : LInv s L) {d x : Nat} (hd : d < s.length) (hx : x < s.length) (hc : Con s x d) (hlt : at' L x < at' L d) : LInv s (L.set d (at' L x)) ∧ sumL (L.set d (at' L x)) + 1 ≤ sumL L := by
  have hl : d < L.length := by rw [h.len]; exact hd
  refine ⟨⟨by rw [List.length_set]; exact h.len, fun e he => ?_, fun e he => ?_⟩, ?_⟩
  · rw [at'_set hl]
    split
    · rename_i e'; subst e'; have := h.le d hd; omega
    · exact h.le e he
  · rw [at'_set hl]
    split
    · rename_i e'; subst e'; exact (Con.per hs).trans (h.con x hx) hc
    · exact h.con e he
  · have := sumL_set (L := L) (y := at' L x) hl
    omega

def LClosed (s : List Nat) (L : List Nat) : Prop := ∀ d, d < s.length → at' L (at' s d) = at' L d ∧ at' L (d ^^^ 1) = at' L d

theorem LInv.const {s : List Nat} (hs : IsPerm s) (he : s.length % 2 = 0) {L : List Nat} (h : LInv s L) (hc : LClosed s L) {x y : Nat} (hxy : Con s x y) : at' L x = at' L y := by
  have : ∀ x y, (x < s.length ∧ y < s.length ∧ at' L x = at' L y) → at' L x = at' L y := fun _ _ h => h.2.2
  exact this x y (Con.sub hs (r := fun x y => x < s.length ∧ y < s.length ∧ at' L x = at' L y) ⟨fun hx => ⟨hx, hx, rfl⟩, fun h => ⟨h.2.1, h.1, h.2.2.symm⟩, fun h k => ⟨h.1, k.2.1, h.2.2.trans k.2.2⟩, fun h => h.1⟩
    (fun z hz => ⟨hz, hs.lt hz, ((hc z hz).1).symm⟩) (fun z hz => ⟨hz, xor_one_lt he hz, ((hc z hz).2).symm⟩) hxy)

/-- in the end a dart keeps its own label just if it is the least of its part; else its label's dart is of its part, and below -/
theorem LInv.last {s : List Nat} (hs : IsPerm s) (he : s.length % 2 = 0) {L : List Nat} (h : LInv s L) (hc : LClosed s L) {d : Nat} (hd : d < s.length) :
    (at' L d = d ∧ nth (partsL s) d = ((partsGo s d).2 : Int) ∧ (partsGo s (d + 1)).2 = (partsGo s d).2 + 1) ∨
    (at' L d < d ∧ nth (partsL s) d = nth (partsL s) (at' L d) ∧ (partsGo s (d + 1)).2 = (partsGo s d).2) := by
  have hO := partsL_ord hs he
  have hle := h.le d hd
  by_cases e : at' L d = d
  · left
    have hl : Least (Con s) d := fun y hy hr => by
      have h1 := h.const hs he hc hr
      have h2 := h.le y (by omega)
      omega
    have h1 := (hO.least hd).1 hl
    have h1 : nth (partsL s) d = ((partsGo s d).2 : Int) := h1
    rcases hO.ord d hd with ⟨_, b, _⟩ | ⟨_, b⟩
    · have b : nth (partsL s) d < ((partsGo s d).2 : Int) := b
      omega
    · exact ⟨e, h1, b⟩
  · right
    have hlt : at' L d < d := by omega
    have hr := h.con d hd
    refine ⟨hlt, ((hO.rel _ _ (by omega) hd).2 hr).symm, ?_⟩
    rcases hO.ord d hd with ⟨_, _, b⟩ | ⟨a, _⟩
    · exact b
    · exact absurd hr ((hO.least hd).2 a _ hlt)

end Go.Proofs.Ytnbecpeiodcohaa
