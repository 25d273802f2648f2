/- What a part is: its vertices, edges, borders, its genus; loops and doubles; a forest's bound. Conditions: none. -/
import Derived.Test.YtnbecpeiodcohaaMathJ
namespace Go.Proofs.Ytnbecpeiodcohaa
set_option linter.unusedVariables false

theorem phi_ord {s : List Nat} (hs : IsPerm s) (he : s.length % 2 = 0) : Ord s.length (cyc s.length (at' (phiL s))) (namesL (phiL s)) (fun k => (namesGo (phiL s) k).2) := by
  have := namesL_ord (phiL_perm hs he)
  rwa [phiL_length] at this

/-- the least dart of its orbit -/
def leadB (t : List Nat) (d : Nat) : Bool := nth (namesL t) d == ((namesGo t d).2 : Int)
theorem leadB_iff {t : List Nat} (ht : IsPerm t) {d : Nat} (hd : d < t.length) : leadB t d = true ↔ Least (cyc t.length (at' t)) d := by
  rw [(namesL_ord ht).least hd]
  unfold leadB
  exact beq_iff_eq

def vcnt (t : List Nat) (N : List Int) (k : Int) : Nat → Nat
  | 0 => 0
  | j + 1 => vcnt t N k j + if nth N j = k ∧ leadB t j = true then 1 else 0
def ecnt (N : List Int) (k : Int) : Nat → Nat
  | 0 => 0
  | j + 1 => ecnt N k j + if nth N j = k then j % 2 else 0
def dcnt (N : List Int) (k : Int) : Nat → Nat
  | 0 => 0
  | j + 1 => dcnt N k j + if nth N j = k then 1 else 0

theorem vcnt_succ (t : List Nat) (N : List Int) (k : Int) (j : Nat) : vcnt t N k (j + 1) = vcnt t N k j + if nth N j = k ∧ leadB t j = true then 1 else 0 := rfl
theorem ecnt_succ (N : List Int) (k : Int) (j : Nat) : ecnt N k (j + 1) = ecnt N k j + if nth N j = k then j % 2 else 0 := rfl
theorem dcnt_succ (N : List Int) (k : Int) (j : Nat) : dcnt N k (j + 1) = dcnt N k j + if nth N j = k then 1 else 0 := rfl

theorem vcnt_tally {t : List Nat} (ht : IsPerm t) (N : List Int) (k : Int) : ∀ {j : Nat}, j ≤ t.length → vcnt t N k j = tally (fun d => nth N d = k ∧ Least (cyc t.length (at' t)) d) j
  | 0, _ => rfl
  | j + 1, hj => by
    rw [tally_succ, ← vcnt_tally ht N k (j := j) (by omega), vcnt_succ]
    have := leadB_iff ht (d := j) (by omega)
    by_cases h : nth N j = k ∧ leadB t j = true
    · rw [if_pos h, ind_yes ⟨h.1, this.1 h.2⟩]
    · rw [if_neg h, ind_no (fun h' => h ⟨h'.1, this.2 h'.2⟩)]
theorem vcnt_le (t : List Nat) (N : List Int) (k : Int) : ∀ (j : Nat), vcnt t N k j ≤ j
  | 0 => Nat.le_refl _
  | j + 1 => by have := vcnt_le t N k j; unfold vcnt; split <;> omega
theorem ecnt_le (N : List Int) (k : Int) : ∀ (j : Nat), ecnt N k j ≤ j
  | 0 => Nat.le_refl _
  | j + 1 => by have := ecnt_le N k j; unfold ecnt; split <;> omega
theorem dcnt_le (N : List Int) (k : Int) : ∀ (j : Nat), dcnt N k j ≤ j
  | 0 => Nat.le_refl _
  | j + 1 => by have := dcnt_le N k j; unfold dcnt; split <;> omega

theorem edges_tally {s : List Nat} {N : List Int} (k : Int) (hm : ∀ x, x < s.length → nth N (x ^^^ 1) = nth N x) : ∀ {e : Nat}, 2 * e ≤ s.length →
    ecnt N k (2 * e) = tally (fun e => nth N (2 * e) = k) e ∧ dcnt N k (2 * e) = 2 * tally (fun e => nth N (2 * e) = k) e
  | 0, _ => ⟨rfl, rfl⟩
  | e + 1, he => by
    obtain ⟨h1, h2⟩ := edges_tally k hm (e := e) (by omega)
    have h3 := hm (2 * e) (by omega)
    rw [xor_even] at h3
    rw [show 2 * (e + 1) = 2 * e + 1 + 1 by omega, tally_succ]
    unfold ecnt dcnt
    unfold ecnt dcnt
    rw [h1, h2, h3]
    by_cases h : nth N (2 * e) = k
    · rw [if_pos h, if_pos h, ind_yes h, if_pos h]; omega
    · rw [if_neg h, if_neg h, ind_no h, if_neg h]; omega

/-- the first that has it -/
def rootOf (N : List Int) (k : Int) : Nat := N.findIdx (fun x => x == k)
theorem rootOf_eq {N : List Int} {k : Int} {j : Nat} (hj : j < N.length) (h : nth N j = k) (hn : ∀ i, i < j → nth N i ≠ k) : rootOf N k = j := by
  unfold rootOf
  rw [List.findIdx_eq hj]
  refine ⟨by simp [nth, hj] at h; simp [h], fun i hi => ?_⟩
  have := hn i hi
  simp [nth, show i < N.length by omega] at this
  simpa using this

theorem Ord.first {n : Nat} {r : Nat → Nat → Prop} {N : List Int} {cnt : Nat → Nat} (h : Ord n r N cnt) {j : Nat} (hj : j < n) (e : nth N j = cnt j) : ∀ i, i < j → nth N i ≠ cnt j := fun i hi => by
  have h1 := (h.bound (k := i) (by omega)).2
  have h2 := h.mono (k := i + 1) (l := j) (by omega) (by omega)
  omega

structure PartR where
  root : Int
  v : Int
  e : Int
  b : Int
  g : Int
deriving DecidableEq

/-- part k, as far as j darts tell it -/
def partAt (s : List Nat) (N : List Int) (g : Int) (j k : Nat) : PartR := ⟨(rootOf N (k : Int) : Nat), (vcnt s N (k : Int) j : Nat), (ecnt N (k : Int) j : Nat), (vcnt (phiL s) N (k : Int) j : Nat), g⟩
def genOf (s : List Nat) (N : List Int) (k : Nat) : Int := (2 - (vcnt s N (k : Int) s.length : Nat) + (ecnt N (k : Int) s.length : Nat) - (vcnt (phiL s) N (k : Int) s.length : Nat)) / 2
def partF (s : List Nat) (k : Nat) : PartR := partAt s (partsL s) (genOf s (partsL s) k) s.length k
def loneR : PartR := ⟨-1, 1, 0, 1, 0⟩
def partsR (s : List Nat) (lone : Nat) : List PartR := (List.range (partsN s)).map (partF s) ++ List.replicate lone loneR
def genusTo (s : List Nat) : Nat → Int
  | 0 => 0
  | k + 1 => genusTo s k + genOf s (partsL s) k
def genusL (s : List Nat) : Int := genusTo s (partsN s)

theorem partsL_mate {s : List Nat} (hs : IsPerm s) (he : s.length % 2 = 0) {x : Nat} (hx : x < s.length) : nth (partsL s) (x ^^^ 1) = nth (partsL s) x :=
  ((partsL_ord hs he).rel _ _ (xor_one_lt he hx) hx).2 ((Con.per hs).symm (Con.mate hs he hx))
theorem partsL_step {s : List Nat} (hs : IsPerm s) (he : s.length % 2 = 0) {x : Nat} (hx : x < s.length) : nth (partsL s) (at' s x) = nth (partsL s) x :=
  ((partsL_ord hs he).rel _ _ (hs.lt hx) hx).2 ((Con.per hs).symm (Con.step hs hx))
theorem partsL_closed {s : List Nat} (hs : IsPerm s) (he : s.length % 2 = 0) (k : Int) : Closed s (fun x => nth (partsL s) x = k) :=
  ⟨fun x hx => by show nth (partsL s) _ = k ↔ nth (partsL s) x = k; rw [partsL_step hs he hx], fun x hx => by show nth (partsL s) _ = k ↔ nth (partsL s) x = k; rw [partsL_mate hs he hx]⟩

/-- a part's genus is a whole number, and not below nought -/
theorem part_euler {s : List Nat} (hs : IsPerm s) (he : s.length % 2 = 0) {k : Nat} (hk : k < partsN s) :
    ∃ t, vcnt s (partsL s) (k : Int) s.length + vcnt (phiL s) (partsL s) (k : Int) s.length + 2 * t = ecnt (partsL s) (k : Int) s.length + 2 := by
  have hP := partsL_closed hs he (k : Int)
  obtain ⟨t, h⟩ := euler_go hs he hP (k := s.length / 2) (by omega)
  have hO := partsL_ord hs he
  have h1 : cls (st s (s.length / 2)) (fun x => nth (partsL s) x = (k : Int)) s.length = 1 := by
    obtain ⟨j, hj, e1, e2⟩ := hO.has (Nat.le_refl _) k hk
    have hl := (hO.least hj).2 (by show nth (partsL s) j = _; rw [e1, show (partsGo s j).2 = k from e2])
    show tally (fun x => nth (partsL s) x = (k : Int) ∧ Least (Con s) x) s.length = 1
    rw [tally_but hj ⟨e1, hl⟩, tally_none (n := s.length) (p := fun x => (nth (partsL s) x = (k : Int) ∧ Least (Con s) x) ∧ x ≠ j)]
    rintro x hx ⟨⟨a, b⟩, c⟩
    exact c ((Con.per hs).least_one b hl ((hO.rel x j hx hj).1 (by rw [a, e1])))
  have h2 := vcnt_tally hs (partsL s) (k : Int) (Nat.le_refl _)
  have h3 := vcnt_tally (phiL_perm hs he) (partsL s) (k : Int) (j := s.length) (by rw [phiL_length]; exact Nat.le_refl _)
  rw [phiL_length] at h3
  have h4 := (edges_tally (s := s) (k : Int) (fun x hx => partsL_mate hs he hx) (e := s.length / 2) (by omega)).1
  rw [show 2 * (s.length / 2) = s.length by omega] at h4
  have h5 : cls (cyc s.length (fk s (s.length / 2))) (fun x => nth (partsL s) x = (k : Int)) s.length = cls (cyc s.length (at' (phiL s))) (fun x => nth (partsL s) x = (k : Int)) s.length :=
    cls_congr fun x y _ _ => cyc_congr (fk_pm hs (by omega)) fun z hz => fk_all he hz
  rw [h5, h1] at h
  refine ⟨t, ?_⟩
  rw [h2, h3, h4]
  have h6 : cls (cyc s.length (at' s)) (fun x => nth (partsL s) x = (k : Int)) s.length = tally (fun d => nth (partsL s) d = (k : Int) ∧ Least (cyc s.length (at' s)) d) s.length := rfl
  have h7 : cls (cyc s.length (at' (phiL s))) (fun x => nth (partsL s) x = (k : Int)) s.length = tally (fun d => nth (partsL s) d = (k : Int) ∧ Least (cyc s.length (at' (phiL s))) d) s.length := rfl
  rw [h6, h7] at h
  omega

theorem genOf_euler {s : List Nat} (hs : IsPerm s) (he : s.length % 2 = 0) {k : Nat} (hk : k < partsN s) : 0 ≤ genOf s (partsL s) k ∧
    ((vcnt s (partsL s) (k : Int) s.length : Nat) : Int) - (ecnt (partsL s) (k : Int) s.length : Nat) + (vcnt (phiL s) (partsL s) (k : Int) s.length : Nat) = 2 - 2 * genOf s (partsL s) k := by
  obtain ⟨t, h⟩ := part_euler hs he hk
  unfold genOf
  omega

theorem genusTo_pos {s : List Nat} (hs : IsPerm s) (he : s.length % 2 = 0) : ∀ {k : Nat}, k ≤ partsN s → 0 ≤ genusTo s k
  | 0, _ => Int.le_refl _
  | k + 1, hk => by have := genusTo_pos hs he (k := k) (by omega); have := (genOf_euler hs he (k := k) (by omega)).1; unfold genusTo; omega

theorem partsN_le {s : List Nat} (hs : IsPerm s) (he : s.length % 2 = 0) : partsN s ≤ s.length := (partsL_ord hs he).cnt_le (Nat.le_refl _)
theorem partsL_lt {s : List Nat} (hs : IsPerm s) (he : s.length % 2 = 0) {x : Nat} (hx : x < s.length) : 0 ≤ nth (partsL s) x ∧ nth (partsL s) x < partsN s := by
  have h := (partsL_ord hs he).bound hx
  have h2 := (partsL_ord hs he).mono (k := x + 1) (l := s.length) (by omega) (Nat.le_refl _)
  have h2 : (partsGo s (x + 1)).2 ≤ partsN s := h2
  have h : 0 ≤ nth (partsL s) x ∧ nth (partsL s) x < ((partsGo s (x + 1)).2 : Int) := h
  exact ⟨h.1, by omega⟩

/-- sums over the parts -/
def sumN (f : Nat → Nat) : Nat → Nat
  | 0 => 0
  | k + 1 => sumN f k + f k
theorem sumN_congr {f g : Nat → Nat} : ∀ {C : Nat}, (∀ k, k < C → f k = g k) → sumN f C = sumN g C
  | 0, _ => rfl
  | C + 1, h => by unfold sumN; rw [sumN_congr fun k hk => h k (by omega), h C (by omega)]
theorem sumN_zero : ∀ {C : Nat}, sumN (fun _ => 0) C = 0
  | 0 => rfl
  | C + 1 => by unfold sumN; rw [sumN_zero]
theorem sumN_step {f g : Nat → Nat} {y a : Nat} : ∀ {C : Nat}, (∀ k, k < C → g k = f k + if k = y then a else 0) → sumN g C = sumN f C + if y < C then a else 0
  | 0, _ => by simp [sumN]
  | C + 1, h => by
    unfold sumN
    rw [sumN_step (C := C) fun k hk => h k (by omega), h C (by omega)]
    by_cases e : C = y
    · subst e; simp; omega
    · by_cases h' : y < C
      · rw [if_pos h', if_neg e, if_pos (by omega)]; omega
      · rw [if_neg h', if_neg e, if_neg (by omega)]; omega

theorem sum_vcnt {t : List Nat} (ht : IsPerm t) {N : List Int} {C : Nat} (hN : ∀ x, x < t.length → 0 ≤ nth N x ∧ nth N x < C) : ∀ {j : Nat}, j ≤ t.length → sumN (fun k => vcnt t N (k : Int) j) C = (namesGo t j).2
  | 0, _ => by rw [show (fun k : Nat => vcnt t N (k : Int) 0) = fun _ => 0 from rfl, sumN_zero]; rfl
  | j + 1, hj => by
    obtain ⟨y, hy⟩ := Int.eq_ofNat_of_zero_le (hN j (by omega)).1
    have hyC := (hN j (by omega)).2
    have hs : sumN (fun k => vcnt t N (k : Int) (j + 1)) C = sumN (fun k => vcnt t N (k : Int) j) C + if y < C then (if leadB t j = true then 1 else 0) else 0 := sumN_step fun k _ => by
      show vcnt t N (k : Int) j + (if nth N j = (k : Int) ∧ leadB t j = true then 1 else 0) = _
      congr 1
      by_cases e : k = y
      · subst e; simp [hy]
      · have : ¬ nth N j = (k : Int) := by rw [hy]; omega
        simp [this, e]
    rw [hs, sum_vcnt ht hN (j := j) (by omega), if_pos (by omega)]
    unfold leadB
    rcases names_next ht (k := j) (by omega) with ⟨a, b, c⟩ | ⟨a, b⟩
    · rw [c, if_neg]; rfl
      rw [beq_iff_eq]; omega
    · rw [b, if_pos]
      rw [beq_iff_eq]; exact a
theorem sum_ecnt {n : Nat} {N : List Int} {C : Nat} (hN : ∀ x, x < n → 0 ≤ nth N x ∧ nth N x < C) : ∀ {j : Nat}, j ≤ n → sumN (fun k => ecnt N (k : Int) j) C = j / 2
  | 0, _ => by rw [show (fun k : Nat => ecnt N (k : Int) 0) = fun _ => 0 from rfl, sumN_zero]
  | j + 1, hj => by
    obtain ⟨y, hy⟩ := Int.eq_ofNat_of_zero_le (hN j (by omega)).1
    have hyC := (hN j (by omega)).2
    have hs : sumN (fun k => ecnt N (k : Int) (j + 1)) C = sumN (fun k => ecnt N (k : Int) j) C + if y < C then j % 2 else 0 := sumN_step fun k _ => by
      show ecnt N (k : Int) j + (if nth N j = (k : Int) then j % 2 else 0) = _
      congr 1
      by_cases e : k = y
      · subst e; simp [hy]
      · have : ¬ nth N j = (k : Int) := by rw [hy]; omega
        simp [this, e]
    rw [hs, sum_ecnt hN (j := j) (by omega), if_pos (by omega)]
    omega

/-- loops; edges between the same two as a lower one -/
def loopB (s : List Nat) (e : Nat) : Bool := nth (namesL s) (2 * e) == nth (namesL s) (2 * e + 1)
def loopsTo (s : List Nat) : Nat → Nat
  | 0 => 0
  | e + 1 => loopsTo s e + if loopB s e = true then 1 else 0
def pairB (s : List Nat) (e f : Nat) : Bool :=
  (nth (namesL s) (2 * f) == nth (namesL s) (2 * e) && nth (namesL s) (2 * f + 1) == nth (namesL s) (2 * e + 1)) || (nth (namesL s) (2 * f) == nth (namesL s) (2 * e + 1) && nth (namesL s) (2 * f + 1) == nth (namesL s) (2 * e))
def dblB (s : List Nat) (e : Nat) : Bool := !loopB s e && (List.range e).any fun f => pairB s e f
def dblsTo (s : List Nat) : Nat → Nat
  | 0 => 0
  | e + 1 => dblsTo s e + if dblB s e = true then 1 else 0
def loopsL (s : List Nat) : Nat := loopsTo s (s.length / 2)
def dblsL (s : List Nat) : Nat := dblsTo s (s.length / 2)
theorem loopsTo_le (s : List Nat) : ∀ e, loopsTo s e ≤ e
  | 0 => Nat.le_refl _
  | e + 1 => by have := loopsTo_le s e; unfold loopsTo; split <;> omega
theorem dblsTo_le (s : List Nat) : ∀ e, dblsTo s e ≤ e
  | 0 => Nat.le_refl _
  | e + 1 => by have := dblsTo_le s e; unfold dblsTo; split <;> omega

theorem extra_le {s : List Nat} (hs : IsPerm s) (he : s.length % 2 = 0) : ∀ {e : Nat}, 2 * e ≤ s.length → loopsTo s e + dblsTo s e ≤ tally (fun e => st s e (2 * e) (2 * e + 1)) e
  | 0, _ => Nat.le_refl _
  | e + 1, h => by
    have ih := extra_le hs he (e := e) (by omega)
    rw [tally_succ]
    unfold loopsTo dblsTo
    have hc : ∀ {x y : Nat}, x < s.length → y < s.length → nth (namesL s) x = nth (namesL s) y → st s e x y := fun {x y} hx hy e' => by
      have : st s 0 x y := (cyc_at hs).2 ⟨hx, hy, e'⟩
      exact st_le this (Nat.zero_le _)
    by_cases h1 : loopB s e = true
    · have h2 : ¬ dblB s e = true := by simp [dblB, h1]
      rw [if_pos h1, if_neg h2, ind_yes (hc (by omega) (by omega) (by unfold loopB at h1; exact beq_iff_eq.1 h1))]
      omega
    · rw [if_neg h1]
      by_cases h2 : dblB s e = true
      · rw [if_pos h2, ind_yes ?_]
        · omega
        · unfold dblB at h2
          simp only [Bool.and_eq_true, List.any_eq_true, List.mem_range] at h2
          obtain ⟨_, f, hf, hp⟩ := h2
          have hp' := st_per hs (k := e) (by omega)
          have hfe : st s e (2 * f) (2 * f + 1) := by
            have := st_edge hs (k := e) (x := 2 * f) (by omega) (by omega)
            rwa [xor_even] at this
          unfold pairB at hp
          simp only [Bool.or_eq_true, Bool.and_eq_true, beq_iff_eq] at hp
          rcases hp with ⟨a, b⟩ | ⟨a, b⟩
          · exact hp'.trans (hp'.symm (hc (by omega) (by omega) a)) (hp'.trans hfe (hc (by omega) (by omega) b))
          · exact hp'.trans (hp'.symm (hc (by omega) (by omega) b)) (hp'.trans (hp'.symm hfe) (hc (by omega) (by omega) a))
      · rw [if_neg h2]; omega

/-- as many loops and doubles at most as there are edges besides a forest's -/
theorem forest_bound {s : List Nat} (hs : IsPerm s) (he : s.length % 2 = 0) : (sizesL s).length + loopsL s + dblsL s ≤ s.length / 2 + partsN s := by
  have h := forest_go hs he (P := fun _ => True) ⟨fun _ _ => Iff.rfl, fun _ _ => Iff.rfl⟩ (k := s.length / 2) (by omega)
  have h1 := extra_le hs he (e := s.length / 2) (by omega)
  have h2 : cls (cyc s.length (at' s)) (fun _ => True) s.length = (sizesL s).length := by
    rw [← sizesGo_all, sizesGo_length hs _ (Nat.le_refl _), (namesL_ord hs).cnt_eq (Nat.le_refl _)]
    exact tally_congr fun k _ => ⟨fun h => h.2, fun h => ⟨trivial, h⟩⟩
  have h3 : cls (st s (s.length / 2)) (fun _ => True) s.length = partsN s := by
    have := (partsL_ord hs he).cnt_eq (Nat.le_refl _)
    show _ = (partsGo s s.length).2
    rw [this]
    exact tally_congr fun k _ => ⟨fun h => h.2, fun h => ⟨trivial, h⟩⟩
  have h4 : tally (fun e => True ∧ st s e (2 * e) (2 * e + 1)) (s.length / 2) = tally (fun e => st s e (2 * e) (2 * e + 1)) (s.length / 2) := tally_congr fun k _ => ⟨fun h => h.2, fun h => ⟨trivial, h⟩⟩
  have h5 : tally (fun _ => True) (s.length / 2) = s.length / 2 := tally_all fun _ _ => trivial
  rw [h2, h3, h4, h5] at h
  unfold loopsL dblsL
  omega

end Go.Proofs.Ytnbecpeiodcohaa
