/- Cut, a map has as many vertices, those that are left bare counted. Conditions: none. A map's genus, by how many parts, vertices, edges and faces it has; so by other names it is the same. Conditions: none. By other names a map has as many double edges. Conditions: none. Names of edges, and flips, as names of darts; named back. Conditions: none. Canonical names: the darts that are met first, edge by edge, have the even names. Conditions: none. -/
import Derived.Test.YtlbhmonpfchocaaZCanonIso21
import Derived.Test.YtlbhmonpfchocaaZCanonIso17
namespace Go.Proofs.Ytlbhmonpfchocaa
set_option linter.unusedVariables false

theorem it_itf (s : List Nat) : ∀ (j x : Nat), it s j x = itf (at' s) j x
  | 0, _ => rfl
  | j + 1, x => it_itf s j (at' s x)
theorem sizesL_tally {s : List Nat} (hs : IsPerm s) : (sizesL s).length = tally (Least (cyc s.length (at' s))) s.length := by
  have h1 := sizesGo_length hs s.length (Nat.le_refl _)
  have h2 := (namesL_ord hs).cnt_eq (Nat.le_refl s.length)
  have e : sizesGo s s.length = sizesL s := by unfold sizesGo sizesL; rw [List.take_of_length_le (by rw [namesL_length]; exact Nat.le_refl _)]
  rw [← e, h1]
  exact h2
theorem tally_two {p : Nat → Prop} {n a b : Nat} (ha : a < n) (hb : b < n) (hab : a ≠ b) (h : ∀ x, x < n → p x → x = a ∨ x = b) : tally p n = ind (p a) + ind (p b) := by
  have none : ∀ {q : Nat → Prop}, (∀ x, x < n → q x → x = b) → ¬ q b → tally q n = 0 := fun h1 h2 => tally_none fun k hk hq => h2 (h1 k hk hq ▸ hq)
  have one : ∀ {q : Nat → Prop}, (∀ x, x < n → q x → x = b) → q b → tally q n = 1 := fun {q} h1 h2 => by
    rw [tally_but hb h2, tally_none fun k hk hq => hq.2 (h1 k hk hq.1)]
  by_cases h1 : p a
  · have e : tally p n = tally (fun k => p k ∧ k ≠ a) n + 1 := tally_but ha h1
    have hx : ∀ x, x < n → (p x ∧ x ≠ a) → x = b := fun x hx hp => (h x hx hp.1).resolve_left hp.2
    by_cases h2 : p b
    · have := one hx ⟨h2, fun e => hab e.symm⟩
      rw [ind_yes h1, ind_yes h2]; omega
    · have := none hx (fun k => h2 k.1)
      rw [ind_yes h1, ind_no h2]; omega
  · have hx : ∀ x, x < n → p x → x = b := fun x hx hp => (h x hx hp).resolve_left (fun e => h1 (e ▸ hp))
    by_cases h2 : p b
    · have := one hx h2
      rw [ind_no h1, ind_yes h2]; omega
    · have := none hx h2
      rw [ind_no h1, ind_no h2]; omega
theorem ind_oneIf {p : Prop} {b : Bool} (h : p ↔ b = true) : ((ind p : Nat) : Int) = oneIf b := by
  cases b with
  | true => rw [ind_yes (h.2 rfl)]; rfl
  | false => rw [ind_no (fun k => by have := h.1 k; cases this)]; rfl

section
variable {p n : Nat} {r q : Nat → Nat → Prop} {P : Nat → Prop} (hr : Per p r) (hq : Per n q) (f : Nat → Nat)
  (hf : ∀ x, x < p → f x < n ∧ P (f x)) (hb : ∀ y, y < n → P y → ∃ x, x < p ∧ q (f x) y) (hP : ∀ x y, P x → q x y → P y) (hrq : ∀ x y, x < p → y < p → (r x y ↔ q (f x) (f y)))
include hr hq hf hb hP hrq
/-- as many classes there as here, where each class there is met -/
theorem cls_cover : cls r (fun _ => True) p = cls q P n := by
  have hx : ∀ x, ∃ l, x < p → q l (f x) ∧ Least q l := fun x => by
    by_cases h : x < p
    · obtain ⟨l, _, h1, h2⟩ := hq.least (f x) (hf x h).1
      exact ⟨l, fun _ => ⟨h1, h2⟩⟩
    · exact ⟨0, fun h' => absurd h' h⟩
  have hy : ∀ y, ∃ l, y < n → P y → ∃ x, x < p ∧ q (f x) y ∧ r l x ∧ Least r l := fun y => by
    by_cases h : y < n ∧ P y
    · obtain ⟨x, h1, h2⟩ := hb y h.1 h.2
      obtain ⟨l, _, h3, h4⟩ := hr.least x h1
      exact ⟨l, fun _ _ => ⟨x, h1, h2, h3, h4⟩⟩
    · exact ⟨0, fun h1 h2 => absurd ⟨h1, h2⟩ h⟩
  refine Nat.le_antisymm ?_ ?_
  · refine tally_inj (fun x => Classical.choose (hx x)) (fun x hxp _ => ?_) (fun x y hxp hyp h1 h2 e => ?_)
    · obtain ⟨h1, h2⟩ := Classical.choose_spec (hx x) hxp
      exact ⟨hq.dom h1, hP _ _ (hf x hxp).2 (hq.symm h1), h2⟩
    · have e : Classical.choose (hx x) = Classical.choose (hx y) := e
      have a := (Classical.choose_spec (hx x) hxp).1
      have b := (Classical.choose_spec (hx y) hyp).1
      rw [e] at a
      exact hr.least_one h1.2 h2.2 ((hrq x y hxp hyp).2 (hq.trans (hq.symm a) b))
  · refine tally_inj (fun y => Classical.choose (hy y)) (fun y hyn h => ?_) (fun y z hyn hzn h1 h2 e => ?_)
    · obtain ⟨x, h1, h2, h3, h4⟩ := Classical.choose_spec (hy y) hyn h.1
      exact ⟨hr.dom h3, trivial, h4⟩
    · have e : Classical.choose (hy y) = Classical.choose (hy z) := e
      obtain ⟨x, a1, a2, a3, _⟩ := Classical.choose_spec (hy y) hyn h1.1
      obtain ⟨x', b1, b2, b3, _⟩ := Classical.choose_spec (hy z) hzn h2.1
      rw [e] at a3
      have h := (hrq x x' a1 b1).1 (hr.trans (hr.symm a3) b3)
      exact hq.least_one h1.2 h2.2 (hq.trans (hq.symm a2) (hq.trans h b2))
end

theorem itf_plus (f : Nat → Nat) : ∀ (a b x : Nat), itf f (a + b) x = itf f b (itf f a x)
  | 0, b, x => by rw [Nat.zero_add]; rfl
  | a + 1, b, x => by rw [show a + 1 + b = (a + b) + 1 by omega]; exact itf_plus f a b (f x)

section
variable {s : List Nat} (hs : IsPerm s) {e : Nat} (hn : 2 * e + 2 ≤ s.length)
include hs hn

theorem cyc_done {x y : Nat} (hx : x < s.length - 2) (hy : y < s.length - 2) : cyc (s.length - 2) (at' (doneL s e)) x y ↔ cyc s.length (at' s) (unL e x) (unL e y) := by
  have hp : Pm (s.length - 2) (at' (doneL s e)) := by have := (doneL_perm hs hn).pm; rwa [doneL_length] at this
  have hq := hs.pm.per
  have hstep : ∀ z, z < s.length - 2 → ∃ m, itf (at' s) (m + 1) (unL e z) = unL e (at' (doneL s e) z) ∧ ∀ j, 1 ≤ j → j ≤ m → itf (at' s) j (unL e z) / 2 = e := fun z hz => (done_way hs hn hz).it
  constructor
  · have hper : Per (s.length - 2) (fun x y => x < s.length - 2 ∧ y < s.length - 2 ∧ cyc s.length (at' s) (unL e x) (unL e y)) :=
      ⟨fun h => ⟨h, h, hq.refl (unL_lt hn h)⟩, fun h => ⟨h.2.1, h.1, hq.symm h.2.2⟩, fun h k => ⟨h.1, k.2.1, hq.trans h.2.2 k.2.2⟩, fun h => h.1⟩
    intro h
    exact (hp.cyc_sub hper (fun z hz => by
      obtain ⟨m, e1, _⟩ := hstep z hz
      exact ⟨hz, hp.lt hz, unL_lt hn hz, unL_lt hn (hp.lt hz), m + 1, e1⟩) h).2.2
  · rintro ⟨_, _, m, hm⟩
    induction m using Nat.strongRecOn generalizing x with
    | ind m ih =>
      cases m with
      | zero =>
        have : unL e x = unL e y := hm
        rw [unL_inj this]
        exact hp.per.refl hy
      | succ m =>
        obtain ⟨m1, e1, hown⟩ := hstep x hx
        by_cases hle : m1 ≤ m
        · have e2 : m + 1 = (m1 + 1) + (m - m1) := by omega
          rw [e2, itf_plus, e1] at hm
          exact hp.per.trans (hp.step hx) (ih (m - m1) (by omega) (hp.lt hx) (unL_lt hn (hp.lt hx)) hm)
        · have := hown (m + 1) (by omega) (by omega)
          rw [hm] at this
          exact absurd this unL_own

theorem bare_iff {d : Nat} (hd : d < s.length) : bareB s e d = true ↔ ∀ z, cyc s.length (at' s) d z → z / 2 = e := by
  have _h := hn
  unfold bareB ownB
  rw [List.all_eq_true]
  constructor
  · rintro h z ⟨_, _, j, hj⟩
    have := h z ((hs.mem_orbit hd).2 ⟨j, by rw [it_itf]; exact hj⟩)
    simpa using this
  · intro h y hy
    obtain ⟨j, hj⟩ := (hs.mem_orbit hd).1 hy
    have hl : y < s.length := by rw [← hj, it_itf]; exact hs.pm.it hd j
    have := h y ⟨hd, hl, j, by rw [← it_itf]; exact hj⟩
    simpa using this

theorem cut_vertices : (((sizesL (doneL s e)).length : Nat) : Int) + cutLone s e = ((sizesL s).length : Nat) := by
  have hq := hs.pm.per
  have hpd := doneL_perm hs hn
  have hr : Per (s.length - 2) (cyc (s.length - 2) (at' (doneL s e))) := by have := hpd.pm.per; rwa [doneL_length] at this
  have hA : 2 * e < s.length := by omega
  have hB : 2 * e + 1 < s.length := by omega
  have h1 : (sizesL (doneL s e)).length = cls (cyc (s.length - 2) (at' (doneL s e))) (fun _ => True) (s.length - 2) := by
    rw [sizesL_tally hpd, doneL_length]
    exact tally_congr fun k _ => ⟨fun h => ⟨trivial, h⟩, fun h => h.2⟩
  have h2 := cls_cover (P := fun y => ∃ z, cyc s.length (at' s) y z ∧ ¬ z / 2 = e) hr hq (unL e) (fun x hx => ⟨unL_lt hn hx, unL e x, hq.refl (unL_lt hn hx), unL_own⟩) (fun y hy hP => by
    obtain ⟨z, hz, ho⟩ := hP
    have hzl := hq.cod hz
    exact ⟨nmL e z, nmL_lt hn ho hzl, by rw [un_nm ho]; exact hq.symm hz⟩) (fun x y hx hxy => by
    obtain ⟨z, hz, ho⟩ := hx
    exact ⟨z, hq.trans (hq.symm hxy) hz, ho⟩) (fun x y hx hy => cyc_done hs hn hx hy)
  have h3 : (sizesL s).length = cls (cyc s.length (at' s)) (fun y => ∃ z, cyc s.length (at' s) y z ∧ ¬ z / 2 = e) s.length + tally (fun x => Least (cyc s.length (at' s)) x ∧ ¬ ∃ z, cyc s.length (at' s) x z ∧ ¬ z / 2 = e) s.length := by
    rw [sizesL_tally hs, tally_split _ (fun y => ∃ z, cyc s.length (at' s) y z ∧ ¬ z / 2 = e)]
    congr 1
    exact tally_congr fun k _ => And.comm
  have hown : ∀ x, x < s.length → (¬ ∃ z, cyc s.length (at' s) x z ∧ ¬ z / 2 = e) → x / 2 = e := fun x hx h => by
    by_cases ho : x / 2 = e
    · exact ho
    · exact absurd ⟨x, hq.refl hx, ho⟩ h
  have h4 := tally_two (p := fun x => Least (cyc s.length (at' s)) x ∧ ¬ ∃ z, cyc s.length (at' s) x z ∧ ¬ z / 2 = e) hA hB (by omega) (fun x hx hp => by have := hown x hx hp.2; omega)
  have hbare : ∀ d, d < s.length → (bareB s e d = true ↔ ¬ ∃ z, cyc s.length (at' s) d z ∧ ¬ z / 2 = e) := fun d hd => by
    rw [bare_iff hs hn hd]
    constructor
    · rintro h ⟨z, hz, ho⟩
      exact ho (h z hz)
    · intro h z hz
      by_cases ho : z / 2 = e
      · exact ho
      · exact absurd ⟨z, hz, ho⟩ h
  have hrel := (namesL_ord hs).rel (2 * e) (2 * e + 1) hA hB
  have hpa : (Least (cyc s.length (at' s)) (2 * e) ∧ ¬ ∃ z, cyc s.length (at' s) (2 * e) z ∧ ¬ z / 2 = e) ↔ bareB s e (2 * e) = true := by
    rw [hbare _ hA]
    exact ⟨fun h => h.2, fun h => ⟨fun y hy hc => h ⟨y, hq.symm hc, by omega⟩, h⟩⟩
  have hpb : (Least (cyc s.length (at' s)) (2 * e + 1) ∧ ¬ ∃ z, cyc s.length (at' s) (2 * e + 1) z ∧ ¬ z / 2 = e) ↔ (!decide (nth (namesL s) (2 * e) = nth (namesL s) (2 * e + 1)) && bareB s e (2 * e + 1)) = true := by
    rw [Bool.and_eq_true, hbare _ hB, Bool.not_eq_true', decide_eq_false_iff_not, hrel]
    constructor
    · exact fun h => ⟨fun k => h.1 (2 * e) (by omega) k, h.2⟩
    · refine fun h => ⟨fun y hy hc => ?_, h.2⟩
      by_cases hy2 : y = 2 * e
      · subst hy2; exact h.1 hc
      · exact h.2 ⟨y, hq.symm hc, by omega⟩
  rw [h1, h2, h3]
  unfold cutLone
  have ea := ind_oneIf hpa
  have eb := ind_oneIf hpb
  rw [← ea, ← eb, h4]
  omega
end

/-- dual and mirror, in any order: as many vertices -/
theorem mirror_vertices {s : List Nat} (hs : IsPerm s) (he : s.length % 2 = 0) : (sizesL (phiL (invL s))).length = (sizesL (invL (phiL s))).length := by
  have hpp := phiL_perm hs he
  have hi := invL_perm hs
  have hip := phiL_perm hi (by rw [invL_length]; exact he)
  have p1 : Per s.length (cyc s.length (at' (phiL s))) := by have := hpp.pm.per; rwa [phiL_length] at this
  have p2 : Per s.length (cyc s.length (at' (phiL (invL s)))) := by have := hip.pm.per; rwa [phiL_length, invL_length] at this
  have e1 : (sizesL (invL (phiL s))).length = cls (cyc s.length (at' (phiL s))) (fun _ => True) s.length := by
    rw [sizesL_tally (invL_perm hpp), invL_length, phiL_length]
    refine tally_congr fun k hk => ?_
    have hc := cyc_inv hpp
    rw [phiL_length] at hc
    have hl : Least (cyc s.length (at' (invL (phiL s)))) k ↔ Least (cyc s.length (at' (phiL s))) k :=
      ⟨fun h y hy hc' => h y hy ((hc y k (p1.dom hc') hk).2 hc'), fun h y hy hc' => h y hy ((hc y k (by omega) hk).1 hc')⟩
    exact ⟨fun h => ⟨trivial, hl.1 h⟩, fun h => hl.2 h.2⟩
  have e2 : (sizesL (phiL (invL s))).length = cls (cyc s.length (at' (phiL (invL s)))) (fun _ => True) s.length := by
    rw [sizesL_tally hip, phiL_length, invL_length]
    exact tally_congr fun k hk => ⟨fun h => ⟨trivial, h⟩, fun h => h.2⟩
  rw [e1, e2]
  exact Nat.le_antisymm (cls_mates p1 p2 he (P := fun _ => True) (fun _ _ _ _ => trivial) (fun _ _ => Iff.rfl) (cyc_phi_inv hs he))
    (cls_mates p2 p1 he (P := fun _ => True) (fun _ _ _ _ => trivial) (fun _ _ => Iff.rfl) (fun x y hx hy => by
      rw [cyc_phi_inv hs he _ _ (xor_one_lt he hx) (xor_one_lt he hy), xor_one_one, xor_one_one]))

end Go.Proofs.Ytlbhmonpfchocaa

namespace Go.Proofs.Ytlbhmonpfchocaa
set_option linter.unusedVariables false

/-- a sum over the first so many -/
def sumK (f : Nat → Nat) : Nat → Nat
  | 0 => 0
  | k + 1 => sumK f k + f k
theorem sum_tally {N : Nat → Int} {p : Nat → Prop} {n C : Nat} (h0 : ∀ d, d < n → 0 ≤ N d ∧ N d < (C : Int)) : sumK (fun k => tally (fun d => N d = (k : Int) ∧ p d) n) C = tally p n := by
  have key : ∀ c, sumK (fun k => tally (fun d => N d = (k : Int) ∧ p d) n) c = tally (fun d => p d ∧ N d < (c : Int)) n := fun c => by
    induction c with
    | zero => exact (tally_none fun d hd h => by have := (h0 d hd).1; have := h.2; omega).symm
    | succ c ih =>
      show sumK _ c + _ = _
      rw [ih, tally_split (fun d => p d ∧ N d < ((c + 1 : Nat) : Int)) (fun d => N d < (c : Int))]
      congr 1
      · exact tally_congr fun d _ => ⟨fun h => ⟨⟨h.1, by omega⟩, h.2⟩, fun h => ⟨h.1.1, h.2⟩⟩
      · exact tally_congr fun d _ => ⟨fun h => ⟨⟨h.2, by omega⟩, by omega⟩, fun h => ⟨by omega, h.1.1⟩⟩
  rw [key]
  exact tally_congr fun d hd => ⟨fun h => h.1, fun h => ⟨h, (h0 d hd).2⟩⟩

theorem genus_total {s : List Nat} (hs : IsPerm s) (he : s.length % 2 = 0) : 2 * genusL s = 2 * (partsN s : Int) - ((sizesL s).length : Nat) + ((s.length / 2 : Nat) : Int) - ((sizesL (phiL s)).length : Nat) := by
  have hp := phiL_perm hs he
  have hN : ∀ d, d < s.length → 0 ≤ nth (partsL s) d ∧ nth (partsL s) d < ((partsN s : Nat) : Int) := fun d hd => partsL_lt hs he hd
  have h1 : sumK (fun k => vcnt s (partsL s) (k : Int) s.length) (partsN s) = (sizesL s).length := by
    rw [sizesL_tally hs, ← sum_tally (p := Least (cyc s.length (at' s))) hN]
    congr 1
    funext k
    exact vcnt_tally hs (partsL s) k (Nat.le_refl _)
  have h2 : sumK (fun k => vcnt (phiL s) (partsL s) (k : Int) s.length) (partsN s) = (sizesL (phiL s)).length := by
    rw [sizesL_tally hp, phiL_length, ← sum_tally (p := Least (cyc s.length (at' (phiL s)))) hN]
    congr 1
    funext k
    have := vcnt_tally hp (partsL s) k (j := s.length) (by rw [phiL_length]; exact Nat.le_refl _)
    rw [phiL_length] at this
    exact this
  have h3 : sumK (fun k => ecnt (partsL s) (k : Int) s.length) (partsN s) = s.length / 2 := by
    have e : ∀ k : Nat, ecnt (partsL s) (k : Int) s.length = tally (fun e => nth (partsL s) (2 * e) = (k : Int) ∧ True) (s.length / 2) := fun k => by
      have := (edges_tally (s := s) (k : Int) (fun x hx => partsL_mate hs he hx) (e := s.length / 2) (by omega)).1
      rw [show 2 * (s.length / 2) = s.length by omega] at this
      rw [this]
      exact tally_congr fun d _ => ⟨fun h => ⟨h, trivial⟩, fun h => h.1⟩
    rw [show (fun k : Nat => ecnt (partsL s) (k : Int) s.length) = fun k : Nat => tally (fun e => nth (partsL s) (2 * e) = (k : Int) ∧ True) (s.length / 2) from funext e,
      sum_tally (N := fun e => nth (partsL s) (2 * e)) (p := fun _ => True) (n := s.length / 2) (C := partsN s) fun d hd => hN (2 * d) (by omega)]
    exact tally_all fun _ _ => trivial
  have key : ∀ c, c ≤ partsN s → 2 * genusTo s c = 2 * (c : Int) - (sumK (fun k => vcnt s (partsL s) (k : Int) s.length) c : Nat) + (sumK (fun k => ecnt (partsL s) (k : Int) s.length) c : Nat) - (sumK (fun k => vcnt (phiL s) (partsL s) (k : Int) s.length) c : Nat) := fun c => by
    induction c with
    | zero => intro _; rfl
    | succ c ih =>
      intro hc
      have ih := ih (by omega)
      have hg := (genOf_euler hs he (k := c) (by omega)).2
      show 2 * (genusTo s c + genOf s (partsL s) c) = _
      simp only [sumK]
      omega
  have := key (partsN s) (Nat.le_refl _)
  rw [h1, h2, h3] at this
  exact this

section
variable {p n : Nat} {r q : Nat → Nat → Prop} {P' P : Nat → Prop} (hr : Per p r) (hq : Per n q) (f : Nat → Nat)
  (hf : ∀ x, x < p → P' x → f x < n ∧ P (f x)) (hb : ∀ y, y < n → P y → ∃ x, x < p ∧ P' x ∧ q (f x) y) (hP : ∀ x y, P x → q x y → P y) (hP' : ∀ x y, P' x → r x y → P' y) (hfl : ∀ x, x < p → f x < n) (hrq : ∀ x y, x < p → y < p → (r x y ↔ q (f x) (f y)))
include hr hq hf hb hP hP' hfl hrq
/-- as many classes there as here, of those that are looked at -/
theorem cls_both : cls r P' p = cls q P n := by
  have hx : ∀ x, ∃ l, x < p → q l (f x) ∧ Least q l := fun x => by
    by_cases h : x < p
    · obtain ⟨l, _, h1, h2⟩ := hq.least (f x) (hfl x h)
      exact ⟨l, fun _ => ⟨h1, h2⟩⟩
    · exact ⟨0, fun h' => absurd h' h⟩
  have hy : ∀ y, ∃ l, y < n → P y → ∃ x, x < p ∧ P' x ∧ q (f x) y ∧ r l x ∧ Least r l := fun y => by
    by_cases h : y < n ∧ P y
    · obtain ⟨x, h1, h1', h2⟩ := hb y h.1 h.2
      obtain ⟨l, _, h3, h4⟩ := hr.least x h1
      exact ⟨l, fun _ _ => ⟨x, h1, h1', h2, h3, h4⟩⟩
    · exact ⟨0, fun h1 h2 => absurd ⟨h1, h2⟩ h⟩
  refine Nat.le_antisymm ?_ ?_
  · refine tally_inj (fun x => Classical.choose (hx x)) (fun x hxp h => ?_) (fun x y hxp hyp h1 h2 e => ?_)
    · obtain ⟨h1, h2⟩ := Classical.choose_spec (hx x) hxp
      exact ⟨hq.dom h1, hP _ _ (hf x hxp h.1).2 (hq.symm h1), h2⟩
    · have e : Classical.choose (hx x) = Classical.choose (hx y) := e
      have a := (Classical.choose_spec (hx x) hxp).1
      have b := (Classical.choose_spec (hx y) hyp).1
      rw [e] at a
      exact hr.least_one h1.2 h2.2 ((hrq x y hxp hyp).2 (hq.trans (hq.symm a) b))
  · refine tally_inj (fun y => Classical.choose (hy y)) (fun y hyn h => ?_) (fun y z hyn hzn h1 h2 e => ?_)
    · obtain ⟨x, h1, h1', h2, h3, h4⟩ := Classical.choose_spec (hy y) hyn h.1
      exact ⟨hr.dom h3, hP' _ _ h1' (hr.symm h3), h4⟩
    · have e : Classical.choose (hy y) = Classical.choose (hy z) := e
      obtain ⟨x, a1, _, a2, a3, _⟩ := Classical.choose_spec (hy y) hyn h1.1
      obtain ⟨x', b1, _, b2, b3, _⟩ := Classical.choose_spec (hy z) hzn h2.1
      rw [e] at a3
      have h := (hrq x x' a1 b1).1 (hr.trans (hr.symm a3) b3)
      exact hq.least_one h1.2 h2.2 (hq.trans (hq.symm a2) (hq.trans h b2))
end

section
variable {s t : List Nat} (hs : IsPerm s) (ht : IsPerm t) (hl : t.length = s.length)
include hs ht hl

theorem rel_it : ∀ (j : Nat) {x : Nat}, x < s.length → itf (at' (relL s t)) j (at' t x) = at' t (itf (at' s) j x)
  | 0, x, _ => rfl
  | j + 1, x, hx => by
    show itf _ j (at' (relL s t) (at' t x)) = at' t (itf (at' s) j (at' s x))
    rw [relL_to ht hl hx]
    exact rel_it j (hs.lt hx)
theorem rel_cyc {x y : Nat} (hx : x < s.length) (hy : y < s.length) : cyc s.length (at' s) x y ↔ cyc s.length (at' (relL s t)) (at' t x) (at' t y) := by
  have hlt : ∀ x, x < s.length → at' t x < s.length := fun x hx => by have := ht.lt (i := x) (by rw [hl]; exact hx); omega
  constructor
  · rintro ⟨_, _, j, e⟩
    exact ⟨hlt x hx, hlt y hy, j, by rw [rel_it hs ht hl j hx, e]⟩
  · rintro ⟨_, _, j, e⟩
    rw [rel_it hs ht hl j hx] at e
    exact ⟨hx, hy, j, ht.inj (by rw [hl]; exact hs.pm.it hx j) (by rw [hl]; exact hy) e⟩
theorem rel_vertices : (sizesL (relL s t)).length = (sizesL s).length := by
  have hp := relL_perm hs ht hl
  have hlt : ∀ x, x < s.length → at' t x < s.length := fun x hx => by have := ht.lt (i := x) (by rw [hl]; exact hx); omega
  rw [sizesL_tally hs, sizesL_tally hp, relL_length]
  have h := cls_cover (p := s.length) (n := s.length) (P := fun _ => True) hs.pm.per (q := cyc s.length (at' (relL s t))) (by have := hp.pm.per; rwa [relL_length] at this) (at' t) (fun x hx => ⟨hlt x hx, trivial⟩) (fun y hy _ => by
    obtain ⟨x, hx, e⟩ := ht.surj (y := y) (by rw [hl]; exact hy)
    refine ⟨x, by rw [← hl]; exact hx, ?_⟩
    rw [e]
    exact (show Per s.length (cyc s.length (at' (relL s t))) by have := hp.pm.per; rwa [relL_length] at this).refl hy) (fun _ _ _ _ => trivial) (fun x y hx hy => rel_cyc hs ht hl hx hy)
  have e1 : cls (cyc s.length (at' s)) (fun _ => True) s.length = tally (Least (cyc s.length (at' s))) s.length := tally_congr fun k _ => ⟨fun h => h.2, fun h => ⟨trivial, h⟩⟩
  have e2 : cls (cyc s.length (at' (relL s t))) (fun _ => True) s.length = tally (Least (cyc s.length (at' (relL s t)))) s.length := tally_congr fun k _ => ⟨fun h => h.2, fun h => ⟨trivial, h⟩⟩
  rw [← e1, ← e2, h]
end

theorem phi_rel {s t : List Nat} (he : s.length % 2 = 0) (ht : IsPerm t) (hl : t.length = s.length) (hm : Mates t) : phiL (relL s t) = relL (phiL s) t := by
  refine eq_at (by rw [phiL_length, relL_length, relL_length, phiL_length]) fun j hj => ?_
  rw [phiL_length, relL_length] at hj
  obtain ⟨d, hd, rfl⟩ := ht.surj (y := j) (by rw [hl]; exact hj)
  have hds : d < s.length := by rw [← hl]; exact hd
  rw [phiL_at (by rw [relL_length]; exact hj), ← hm d hd, relL_to ht hl (xor_one_lt he hds), relL_to ht (by rw [phiL_length]; exact hl) (by rw [phiL_length]; exact hds), phiL_at hds]

section
variable {s t : List Nat} (hs : IsPerm s) (he : s.length % 2 = 0) (ht : IsPerm t) (hl : t.length = s.length) (hm : Mates t)
include hs he ht hl hm

theorem con_rel {x y : Nat} (hx : x < s.length) (hy : y < s.length) : Con s x y ↔ Con (relL s t) (at' t x) (at' t y) := by
  have hp := relL_perm hs ht hl
  have hrl := relL_length s t
  have hlt : ∀ x, x < s.length → at' t x < s.length := fun x hx => by have := ht.lt (i := x) (by rw [hl]; exact hx); omega
  have hper : Per s.length (Con (relL s t)) := by have := Con.per hp; rwa [hrl] at this
  have hps := Con.per hs
  constructor
  · intro h
    have hr : Per s.length (fun x y => x < s.length ∧ y < s.length ∧ Con (relL s t) (at' t x) (at' t y)) :=
      ⟨fun h => ⟨h, h, hper.refl (hlt _ h)⟩, fun h => ⟨h.2.1, h.1, hper.symm h.2.2⟩, fun h k => ⟨h.1, k.2.1, hper.trans h.2.2 k.2.2⟩, fun h => h.1⟩
    exact (Con.sub hs hr (fun z hz => ⟨hz, hs.lt hz, by
      rw [← relL_to ht hl hz]
      exact Con.step hp (by rw [hrl]; exact hlt z hz)⟩) (fun z hz => ⟨hz, xor_one_lt he hz, by
      rw [hm z (by rw [hl]; exact hz)]
      exact Con.mate hp (by rw [hrl]; exact he) (by rw [hrl]; exact hlt z hz)⟩) h).2.2
  · intro h
    have hinv : ∀ z, z < s.length → ∃ d, d < s.length ∧ at' t d = z := fun z hz => by
      obtain ⟨d, hd, e⟩ := ht.surj (y := z) (by rw [hl]; exact hz)
      exact ⟨d, by omega, e⟩
    have hr : Per s.length (fun x y => ∃ a b, a < s.length ∧ b < s.length ∧ at' t a = x ∧ at' t b = y ∧ Con s a b) := by
      refine ⟨fun {x} h => ?_, ?_, ?_, ?_⟩
      · obtain ⟨d, hd, e⟩ := hinv x h
        exact ⟨d, d, hd, hd, e, e, hps.refl hd⟩
      · rintro x y ⟨a, b, ha, hb, e1, e2, h⟩
        exact ⟨b, a, hb, ha, e2, e1, hps.symm h⟩
      · rintro x y z ⟨a, b, ha, hb, e1, e2, h⟩ ⟨b', c, hb', hc, e3, e4, k⟩
        have : b = b' := ht.inj (by omega) (by omega) (by rw [e2, e3])
        subst this
        exact ⟨a, c, ha, hc, e1, e4, hps.trans h k⟩
      · rintro x y ⟨a, b, ha, hb, e1, e2, h⟩
        rw [← e1]; exact hlt a ha
    obtain ⟨a, b, ha, hb, e1, e2, hc⟩ := Con.sub hp (r := fun x y => ∃ a b, a < s.length ∧ b < s.length ∧ at' t a = x ∧ at' t b = y ∧ Con s a b) (by rw [hrl]; exact hr) (fun z hz => by
      rw [hrl] at hz
      obtain ⟨d, hd, rfl⟩ := hinv z hz
      exact ⟨d, at' s d, hd, hs.lt hd, rfl, (relL_to ht hl hd).symm, Con.step hs hd⟩) (fun z hz => by
      rw [hrl] at hz
      obtain ⟨d, hd, rfl⟩ := hinv z hz
      exact ⟨d, d ^^^ 1, hd, xor_one_lt he hd, rfl, hm d (by omega), Con.mate hs he hd⟩) h
    have h1 : a = x := ht.inj (by omega) (by omega) e1
    have h2 : b = y := ht.inj (by omega) (by omega) e2
    rw [h1, h2] at hc
    exact hc
theorem rel_parts : partsN (relL s t) = partsN s := by
  have hp := relL_perm hs ht hl
  have hrl := relL_length s t
  have her : (relL s t).length % 2 = 0 := by rw [hrl]; exact he
  have hlt : ∀ x, x < s.length → at' t x < s.length := fun x hx => by have := ht.lt (i := x) (by rw [hl]; exact hx); omega
  have hper : Per s.length (Con (relL s t)) := by have := Con.per hp; rwa [hrl] at this
  have a := (partsL_ord hs he).cnt_eq (Nat.le_refl s.length)
  have b := (partsL_ord hp her).cnt_eq (Nat.le_refl (relL s t).length)
  have h := cls_cover (p := s.length) (n := s.length) (P := fun _ => True) (Con.per hs) hper (at' t) (fun x hx => ⟨hlt x hx, trivial⟩) (fun y hy _ => by
    obtain ⟨x, hx, e⟩ := ht.surj (y := y) (by rw [hl]; exact hy)
    refine ⟨x, by rw [← hl]; exact hx, ?_⟩
    rw [e]
    exact hper.refl hy) (fun _ _ _ _ => trivial) (fun x y hx hy => con_rel hs he ht hl hm hx hy)
  have e1 : cls (Con s) (fun _ => True) s.length = tally (Least (Con s)) s.length := tally_congr fun k _ => ⟨fun h => h.2, fun h => ⟨trivial, h⟩⟩
  have e2 : cls (Con (relL s t)) (fun _ => True) s.length = tally (Least (Con (relL s t))) s.length := tally_congr fun k _ => ⟨fun h => h.2, fun h => ⟨trivial, h⟩⟩
  unfold partsN
  rw [hrl] at b ⊢
  exact b.trans (by rw [← e2, ← h, e1]; exact a.symm)
theorem genusL_rel : genusL (relL s t) = genusL s := by
  have hp := relL_perm hs ht hl
  have hrl := relL_length s t
  have h1 := genus_total hs he
  have h2 := genus_total hp (by rw [hrl]; exact he)
  rw [rel_parts hs he ht hl hm, rel_vertices hs ht hl, hrl, phi_rel he ht hl hm, rel_vertices (phiL_perm hs he) ht (by rw [phiL_length]; exact hl)] at h2
  omega
end
end Go.Proofs.Ytlbhmonpfchocaa

namespace Go.Proofs.Ytlbhmonpfchocaa
set_option linter.unusedVariables false

theorem dblsTo_tally (s : List Nat) : ∀ e, dblsTo s e = tally (fun e => dblB s e = true) e
  | 0 => rfl
  | e + 1 => by
    rw [tally_succ, ← dblsTo_tally s e]
    show dblsTo s e + (if dblB s e = true then 1 else 0) = dblsTo s e + ind _
    by_cases h : dblB s e = true
    · rw [if_pos h, ind_yes h]
    · rw [if_neg h, ind_no h]
/-- the same two ends -/
def par (s : List Nat) (n : Nat) (e f : Nat) : Prop := e < n ∧ f < n ∧ ((nth (namesL s) (2 * e) = nth (namesL s) (2 * f) ∧ nth (namesL s) (2 * e + 1) = nth (namesL s) (2 * f + 1)) ∨ (nth (namesL s) (2 * e) = nth (namesL s) (2 * f + 1) ∧ nth (namesL s) (2 * e + 1) = nth (namesL s) (2 * f)))
def noLoop (s : List Nat) (e : Nat) : Prop := nth (namesL s) (2 * e) ≠ nth (namesL s) (2 * e + 1)
theorem par_per (s : List Nat) (n : Nat) : Per n (par s n) where
  refl h := ⟨h, h, Or.inl ⟨rfl, rfl⟩⟩
  symm h := by
    obtain ⟨h1, h2, ⟨a, b⟩ | ⟨a, b⟩⟩ := h
    · exact ⟨h2, h1, Or.inl ⟨a.symm, b.symm⟩⟩
    · exact ⟨h2, h1, Or.inr ⟨b.symm, a.symm⟩⟩
  trans h k := by
    obtain ⟨h1, h2, ⟨a, b⟩ | ⟨a, b⟩⟩ := h <;> obtain ⟨k1, k2, ⟨c, d⟩ | ⟨c, d⟩⟩ := k
    · exact ⟨h1, k2, Or.inl ⟨a.trans c, b.trans d⟩⟩
    · exact ⟨h1, k2, Or.inr ⟨a.trans c, b.trans d⟩⟩
    · exact ⟨h1, k2, Or.inr ⟨a.trans d, b.trans c⟩⟩
    · exact ⟨h1, k2, Or.inl ⟨a.trans d, b.trans c⟩⟩
  dom h := h.1
theorem noLoop_par {s : List Nat} {n e f : Nat} (h : noLoop s e) (k : par s n e f) : noLoop s f := by
  unfold noLoop at *
  obtain ⟨_, _, ⟨a, b⟩ | ⟨a, b⟩⟩ := k
  · rw [← a, ← b]; exact h
  · rw [← a, ← b]; exact fun e => h e.symm
theorem dblB_least {s : List Nat} {n e : Nat} (he : e < n) : dblB s e = true ↔ noLoop s e ∧ ¬ Least (par s n) e := by
  unfold dblB loopB noLoop Least
  rw [Bool.and_eq_true, Bool.not_eq_true', beq_eq_false_iff_ne, List.any_eq_true]
  refine and_congr_right fun _ => ⟨?_, ?_⟩
  · rintro ⟨f, hf, hp⟩ hall
    have hfe := List.mem_range.1 hf
    refine hall f hfe ⟨by omega, he, ?_⟩
    unfold pairB at hp
    simpa using hp
  · intro hn
    by_cases hex : ∃ f, f < e ∧ par s n f e
    · obtain ⟨f, hf, hp⟩ := hex
      refine ⟨f, List.mem_range.2 hf, ?_⟩
      unfold pairB
      simpa using hp.2.2
    · exact absurd (fun y hy hc => hex ⟨y, hy, hc⟩) hn
theorem dbls_split (s : List Nat) : dblsL s + cls (par s (s.length / 2)) (noLoop s) (s.length / 2) = tally (noLoop s) (s.length / 2) := by
  unfold dblsL cls
  rw [dblsTo_tally, tally_split (noLoop s) (Least (par s (s.length / 2))), tally_congr fun k hk => dblB_least (s := s) hk]
  omega

section
variable {s t : List Nat} (hs : IsPerm s) (he : s.length % 2 = 0) (ht : IsPerm t) (hl : t.length = s.length) (hm : Mates t)
include hs he ht hl hm

theorem rel_names {x y : Nat} (hx : x < s.length) (hy : y < s.length) : nth (namesL (relL s t)) (at' t x) = nth (namesL (relL s t)) (at' t y) ↔ nth (namesL s) x = nth (namesL s) y := by
  have _h1 := he
  have _h2 := hm
  have hp := relL_perm hs ht hl
  have hlt : ∀ x, x < s.length → at' t x < (relL s t).length := fun x hx => by rw [relL_length]; have := ht.lt (i := x) (by rw [hl]; exact hx); omega
  rw [(namesL_ord hp).rel _ _ (hlt x hx) (hlt y hy), (namesL_ord hs).rel _ _ hx hy, relL_length]
  exact (rel_cyc hs ht hl hx hy).symm
/-- an edge's name, and its darts' -/
theorem rel_edge {e : Nat} (hee : e < s.length / 2) : at' t (2 * e) / 2 < s.length / 2 ∧ ((2 * (at' t (2 * e) / 2) = at' t (2 * e) ∧ 2 * (at' t (2 * e) / 2) + 1 = at' t (2 * e + 1)) ∨ (2 * (at' t (2 * e) / 2) = at' t (2 * e + 1) ∧ 2 * (at' t (2 * e) / 2) + 1 = at' t (2 * e))) := by
  have _h1 := hs
  have h1 := ht.lt (i := 2 * e) (by omega)
  have h2 := hm (2 * e) (by omega)
  rw [xor_even] at h2
  rw [h2, xor_one]
  refine ⟨by omega, ?_⟩
  by_cases hb : at' t (2 * e) % 2 = 0
  · rw [if_pos hb]; left; omega
  · rw [if_neg hb]; right; omega
theorem rel_noLoop {e : Nat} (hee : e < s.length / 2) : noLoop (relL s t) (at' t (2 * e) / 2) ↔ noLoop s e := by
  obtain ⟨_, ⟨a, b⟩ | ⟨a, b⟩⟩ := rel_edge hs he ht hl hm hee
  · unfold noLoop; rw [b, a, ne_eq, ne_eq, rel_names hs he ht hl hm (by omega) (by omega)]
  · unfold noLoop; rw [b, a, ne_eq, ne_eq, rel_names hs he ht hl hm (by omega) (by omega)]
    exact ⟨fun h k => h k.symm, fun h k => h k.symm⟩
theorem rel_par {e f : Nat} (hee : e < s.length / 2) (hff : f < s.length / 2) : par s (s.length / 2) e f ↔ par (relL s t) (s.length / 2) (at' t (2 * e) / 2) (at' t (2 * f) / 2) := by
  obtain ⟨l1, h1⟩ := rel_edge hs he ht hl hm hee
  obtain ⟨l2, h2⟩ := rel_edge hs he ht hl hm hff
  have k := fun x y (hx : x < s.length) (hy : y < s.length) => rel_names hs he ht hl hm hx hy
  unfold par
  rcases h1 with ⟨a, b⟩ | ⟨a, b⟩ <;> rcases h2 with ⟨c, d⟩ | ⟨c, d⟩ <;> rw [b, a, d, c, k _ _ (by omega) (by omega), k _ _ (by omega) (by omega), k _ _ (by omega) (by omega), k _ _ (by omega) (by omega)]
  · exact ⟨fun h => ⟨l1, l2, h.2.2⟩, fun h => ⟨hee, hff, h.2.2⟩⟩
  · exact ⟨fun h => ⟨l1, l2, h.2.2.symm⟩, fun h => ⟨hee, hff, h.2.2.symm⟩⟩
  · exact ⟨fun h => ⟨l1, l2, h.2.2.elim (fun x => Or.inr ⟨x.2, x.1⟩) (fun x => Or.inl ⟨x.2, x.1⟩)⟩, fun h => ⟨hee, hff, h.2.2.elim (fun x => Or.inr ⟨x.2, x.1⟩) (fun x => Or.inl ⟨x.2, x.1⟩)⟩⟩
  · exact ⟨fun h => ⟨l1, l2, h.2.2.elim (fun x => Or.inl ⟨x.2, x.1⟩) (fun x => Or.inr ⟨x.2, x.1⟩)⟩, fun h => ⟨hee, hff, h.2.2.elim (fun x => Or.inl ⟨x.2, x.1⟩) (fun x => Or.inr ⟨x.2, x.1⟩)⟩⟩
theorem rel_onto {y : Nat} (hy : y < s.length / 2) : ∃ e, e < s.length / 2 ∧ at' t (2 * e) / 2 = y := by
  obtain ⟨x, hx, e⟩ := ht.surj (y := 2 * y) (by omega)
  refine ⟨x / 2, by omega, ?_⟩
  obtain ⟨_, h⟩ := rel_edge hs he ht hl hm (e := x / 2) (by omega)
  have hx2 : x = 2 * (x / 2) ∨ x = 2 * (x / 2) + 1 := by omega
  rcases hx2 with h2 | h2
  · rw [← h2, e]; omega
  · rw [← h2, e] at h; omega
theorem dblsL_rel : dblsL (relL s t) = dblsL s := by
  have h1 := dbls_split s
  have h2 := dbls_split (relL s t)
  rw [relL_length] at h2
  have ho : ∀ y, y < s.length / 2 → ∃ e, e < s.length / 2 ∧ at' t (2 * e) / 2 = y := fun y hy => rel_onto hs he ht hl hm hy
  have hlt : ∀ e, e < s.length / 2 → at' t (2 * e) / 2 < s.length / 2 := fun e hee => (rel_edge hs he ht hl hm hee).1
  have h3 := cls_both (p := s.length / 2) (n := s.length / 2) (P' := noLoop s) (P := noLoop (relL s t)) (par_per s _) (par_per (relL s t) _) (fun e => at' t (2 * e) / 2) (fun x hx hp => ⟨hlt x hx, (rel_noLoop hs he ht hl hm hx).2 hp⟩) (fun y hy hp => by
    obtain ⟨e, hee, rfl⟩ := ho y hy
    exact ⟨e, hee, (rel_noLoop hs he ht hl hm hee).1 hp, (par_per (relL s t) _).refl hy⟩) (fun x y h k => noLoop_par h k) (fun x y h k => noLoop_par h k) hlt (fun x y hx hy => rel_par hs he ht hl hm hx hy)
  have pe : ∀ n, Per n (fun x y => x < n ∧ x = y) := fun n => ⟨fun h => ⟨h, rfl⟩, fun h => ⟨h.2 ▸ h.1, h.2.symm⟩, fun h k => ⟨h.1, h.2.trans k.2⟩, fun h => h.1⟩
  have hinj : ∀ x y, x < s.length / 2 → y < s.length / 2 → at' t (2 * x) / 2 = at' t (2 * y) / 2 → x = y := fun x y hx hy e => by
    obtain ⟨_, h1⟩ := rel_edge hs he ht hl hm hx
    obtain ⟨_, h2⟩ := rel_edge hs he ht hl hm hy
    rw [e] at h1
    have i := fun a b ha hb k => ht.inj (i := a) (j := b) ha hb k
    rcases h1 with ⟨a, b⟩ | ⟨a, b⟩ <;> rcases h2 with ⟨c, d⟩ | ⟨c, d⟩
    · have := i (2 * x) (2 * y) (by omega) (by omega) (by rw [← a, c]); omega
    · have := i (2 * x) (2 * y + 1) (by omega) (by omega) (by rw [← a, c]); omega
    · have := i (2 * x + 1) (2 * y) (by omega) (by omega) (by rw [← a, c]); omega
    · have := i (2 * x + 1) (2 * y + 1) (by omega) (by omega) (by rw [← a, c]); omega
  have h4 := cls_both (p := s.length / 2) (n := s.length / 2) (P' := noLoop s) (P := noLoop (relL s t)) (pe _) (pe _) (fun e => at' t (2 * e) / 2) (fun x hx hp => ⟨hlt x hx, (rel_noLoop hs he ht hl hm hx).2 hp⟩) (fun y hy hp => by
    obtain ⟨e, hee, rfl⟩ := ho y hy
    exact ⟨e, hee, (rel_noLoop hs he ht hl hm hee).1 hp, hy, rfl⟩) (fun x y h k => k.2 ▸ h) (fun x y h k => k.2 ▸ h) hlt (fun x y hx hy => ⟨fun h => ⟨hlt x hx, by rw [h.2]⟩, fun h => ⟨hx, hinj x y hx hy h.2⟩⟩)
  have el : ∀ (P : Nat → Prop) n, cls (fun x y => x < n ∧ x = y) P n = tally P n := fun P n => tally_congr fun k _ => ⟨fun h => h.1, fun h => ⟨h, fun y hy hc => by have := hc.2; omega⟩⟩
  rw [el, el] at h4
  omega
end
end Go.Proofs.Ytlbhmonpfchocaa

namespace Go.Proofs.Ytlbhmonpfchocaa
set_option linter.unusedVariables false

/-- a dart's name, by its edge's and whether it is flipped -/
def lblN (M : List Nat) (fb : Nat → Bool) (d : Nat) : Nat := if fb (d / 2) = true then (2 * at' M (d / 2) + d % 2) ^^^ 1 else 2 * at' M (d / 2) + d % 2
def lblL (M : List Nat) (fb : Nat → Bool) (i : Nat) : List Nat := (List.range (2 * i)).map (lblN M fb)
theorem lblL_length (M : List Nat) (fb : Nat → Bool) (i : Nat) : (lblL M fb i).length = 2 * i := by simp [lblL]
theorem lblL_at {M : List Nat} {fb : Nat → Bool} {i d : Nat} (h : d < 2 * i) : at' (lblL M fb i) d = lblN M fb d := by simp [lblL, at', h]
theorem lblL_succ (M : List Nat) (fb : Nat → Bool) (i : Nat) : lblL M fb (i + 1) = lblL M fb i ++ [lblN M fb (2 * i), lblN M fb (2 * i + 1)] := by
  unfold lblL
  rw [show 2 * (i + 1) = 2 * i + 1 + 1 by omega, List.range_succ, List.range_succ]
  simp
theorem lblN_even (M : List Nat) (fb : Nat → Bool) (i : Nat) : lblN M fb (2 * i) = (if fb i = true then 2 * at' M i + 1 else 2 * at' M i) ∧ lblN M fb (2 * i + 1) = (if fb i = true then 2 * at' M i else 2 * at' M i + 1) := by
  unfold lblN
  rw [show 2 * i / 2 = i by omega, show (2 * i + 1) / 2 = i by omega, show 2 * i % 2 = 0 by omega, show (2 * i + 1) % 2 = 1 by omega]
  cases fb i with
  | true => simp only [if_true, xor_one]; constructor <;> split <;> omega
  | false => simp
theorem lblN_div (M : List Nat) (fb : Nat → Bool) (d : Nat) : lblN M fb d / 2 = at' M (d / 2) := by
  unfold lblN
  split
  · rw [xor_one_div]; omega
  · omega
section
variable {M : List Nat} (hM : IsPerm M) (fb : Nat → Bool)
include hM
theorem lbl_perm : IsPerm (lblL M fb M.length) := by
  refine IsPerm.of_inj (fun i hi => ?_) (fun i j hi hj h => ?_)
  · rw [lblL_length] at hi ⊢
    rw [lblL_at hi]
    have h1 := lblN_div M fb i
    have h2 := hM.lt (i := i / 2) (by omega)
    omega
  · rw [lblL_length] at hi hj
    rw [lblL_at hi, lblL_at hj] at h
    have h1 := lblN_div M fb i
    have h2 := lblN_div M fb j
    have h3 := hM.inj (i := i / 2) (j := j / 2) (by omega) (by omega) (by rw [← h1, ← h2, h])
    unfold lblN at h
    rw [h3] at h
    split at h
    · have := congrArg (· ^^^ 1) h
      simp only [xor_one_one] at this
      omega
    · omega
theorem lbl_mates : Mates (lblL M fb M.length) := by
  have _h := hM
  intro d hd
  rw [lblL_length] at hd
  have hx := xor_one_lt (n := 2 * M.length) (by omega) hd
  rw [lblL_at hx, lblL_at hd]
  unfold lblN
  rw [xor_one_div]
  have h2 : (d ^^^ 1) % 2 = 1 - d % 2 := by rw [xor_one]; split <;> omega
  rw [h2]
  split
  · rw [xor_one_one, xor_one]; split <;> omega
  · rw [xor_one]; split <;> omega
end
/-- the first and the third change places -/
def sw02 (L : List Nat) : List Nat := (L.set 0 (at' L 2)).set 2 (at' L 0)
theorem sw02_length (L : List Nat) : (sw02 L).length = L.length := by simp [sw02]
theorem sw02_at {L : List Nat} {i : Nat} (hi : i < L.length) : at' (sw02 L) i = at' L (if i = 2 then 0 else if i = 0 then 2 else i) := by
  unfold sw02 at'
  simp only [List.getD_eq_getElem?_getD, List.getElem?_set, List.length_set]
  by_cases h1 : i = 2
  · subst h1; simp [hi]
  · rw [if_neg (fun h => h1 h.symm), if_neg h1]
    by_cases h2 : i = 0
    · subst h2; simp [hi]
    · rw [if_neg (fun h => h2 h.symm), if_neg h2]
theorem sw02_perm {L : List Nat} (hL : IsPerm L) (h2 : 2 < L.length) : IsPerm (sw02 L) := by
  refine IsPerm.of_inj (fun i hi => ?_) (fun i j hi hj h => ?_)
  · rw [sw02_length] at hi ⊢
    rw [sw02_at hi]
    exact hL.lt (by repeat' split
                    all_goals omega)
  · rw [sw02_length] at hi hj
    rw [sw02_at hi, sw02_at hj] at h
    have := hL.inj (by repeat' split
                       all_goals omega) (by repeat' split
                                            all_goals omega) h
    repeat' split at this
    all_goals omega
theorem sw02_not {L : List Nat} (hL : IsPerm L) (hm : Mates L) (h2 : 2 < L.length) : ¬ Mates (sw02 L) := fun h => by
  have h0 := h 0 (by rw [sw02_length]; omega)
  rw [show 0 ^^^ 1 = 1 from rfl, sw02_at (by omega), sw02_at (by omega)] at h0
  simp at h0
  have h1 := hm 0 (by omega)
  rw [show 0 ^^^ 1 = 1 from rfl] at h1
  rw [h1] at h0
  have := congrArg (· ^^^ 1) h0
  simp only [xor_one_one] at this
  have := hL.inj (i := 0) (j := 2) (by omega) h2 this
  omega

section
variable {s t : List Nat} (hs : IsPerm s) (ht : IsPerm t) (hl : t.length = s.length)
include ht
theorem inv_mates (he : t.length % 2 = 0) (hm : Mates t) : Mates (invL t) := by
  intro d hd
  rw [invL_length] at hd
  have h1 := at_invL ht (y := d) hd
  have h2 := at_invL ht (y := d ^^^ 1) (xor_one_lt he hd)
  refine ht.inj h2.2 (xor_one_lt he h1.2) ?_
  rw [h2.1, hm _ h1.2, h1.1]
include hs hl
theorem rel_back : relL (relL s t) (invL t) = s := by
  refine eq_at (by rw [relL_length, relL_length]) fun j hj => ?_
  rw [relL_length, relL_length] at hj
  have hjt : j < t.length := by rw [hl]; exact hj
  rw [relL_at (by rw [relL_length]; exact hj), inv_inv ht, relL_to ht hl hj, invL_at ht (by rw [hl]; exact hs.lt hj)]
theorem root_back {r : Int} (hr : r = -1 ∨ (0 ≤ r ∧ r < s.length)) : atI (invL t) (atI t r) = r := by
  have _h := hs
  rcases hr with rfl | ⟨h1, h2⟩
  · rw [atI_out (s := t) (Or.inl (by omega)), atI_out (Or.inl (by omega))]
  · obtain ⟨k, rfl⟩ := Int.eq_ofNat_of_zero_le h1
    have hk : k < t.length := by omega
    rw [atI_in hk, atI_in (by rw [invL_length]; exact ht.lt hk), invL_at ht hk]
end
end Go.Proofs.Ytlbhmonpfchocaa

namespace Go.Proofs.Ytlbhmonpfchocaa
set_option linter.unusedVariables false

/-- was an edge met? -/
def hasE (F : List Nat) (d : Nat) : Bool := F.any fun x => decide (x / 2 = d / 2)
theorem hasE_iff {F : List Nat} {d : Nat} : hasE F d = true ↔ ∃ i, i < F.length ∧ at' F i / 2 = d / 2 := by
  unfold hasE
  rw [List.any_eq_true]
  constructor
  · rintro ⟨x, hx, h⟩
    obtain ⟨i, hi, rfl⟩ := List.getElem_of_mem hx
    exact ⟨i, hi, by rw [at'_eq hi]; simpa using h⟩
  · rintro ⟨i, hi, h⟩
    rw [at'_eq hi] at h
    exact ⟨F[i], List.getElem_mem hi, by simpa using h⟩
def fstAdd (F : List Nat) (d : Nat) : List Nat := if hasE F d = true then F else F ++ [d]
/-- the darts that are met first, of their edges -/
def fstL (F ds : List Nat) : List Nat := ds.foldl fstAdd F
/-- where a dart's edge stands -/
def idxE (F : List Nat) (d : Nat) : Nat := F.findIdx fun x => decide (x / 2 = d / 2)
/-- a dart's name -/
def nmF (F : List Nat) (d : Nat) : Nat := 2 * idxE F d + if at' F (idxE F d) = d then 0 else 1
def nmI (F : List Nat) (d : Nat) : Int := if hasE F d = true then ((nmF F d : Nat) : Int) else -1
def namesF (n : Nat) (F : List Nat) : List Int := (List.range n).map (nmI F)
theorem namesF_length (n : Nat) (F : List Nat) : (namesF n F).length = n := by simp [namesF]
theorem namesF_at {n : Nat} {F : List Nat} {d : Nat} (h : d < n) : nth (namesF n F) d = nmI F d := by simp [namesF, nth, h]
theorem namesF_nil (n : Nat) : namesF n [] = List.replicate n (-1) := by
  refine List.ext_getElem (by simp [namesF]) fun i h1 h2 => ?_
  simp [namesF, nmI, hasE]

/-- each edge once -/
structure FOk (n : Nat) (F : List Nat) : Prop where
  lt : ∀ i, i < F.length → at' F i < n
  one : ∀ i j, i < F.length → j < F.length → at' F i / 2 = at' F j / 2 → i = j
theorem FOk.nil (n : Nat) : FOk n [] := ⟨fun i h => by simp at h, fun i j h => by simp at h⟩
theorem at_app {F : List Nat} {d i : Nat} (hi : i < F.length) : at' (F ++ [d]) i = at' F i := by simp [at', List.getD, List.getElem?_append_left hi]
theorem at_app_last {F : List Nat} {d : Nat} : at' (F ++ [d]) F.length = d := by simp [at', List.getD]
theorem FOk.add {n : Nat} {F : List Nat} (h : FOk n F) {d : Nat} (hd : d < n) : FOk n (fstAdd F d) := by
  unfold fstAdd
  by_cases hh : hasE F d = true
  · rw [if_pos hh]; exact h
  · rw [if_neg hh]
    have hno : ∀ i, i < F.length → at' F i / 2 ≠ d / 2 := fun i hi e => hh (hasE_iff.2 ⟨i, hi, e⟩)
    refine ⟨fun i hi => ?_, fun i j hi hj e => ?_⟩
    · rw [List.length_append, List.length_singleton] at hi
      by_cases hl : i < F.length
      · rw [at_app hl]; exact h.lt i hl
      · obtain rfl : i = F.length := by omega
        rw [at_app_last]; exact hd
    · rw [List.length_append, List.length_singleton] at hi hj
      by_cases hl : i < F.length <;> by_cases hk : j < F.length
      · rw [at_app hl, at_app hk] at e; exact h.one i j hl hk e
      · obtain rfl : j = F.length := by omega
        rw [at_app hl, at_app_last] at e
        exact absurd e (hno i hl)
      · obtain rfl : i = F.length := by omega
        rw [at_app hk, at_app_last] at e
        exact absurd e.symm (hno j hk)
      · omega
theorem FOk.fst {n : Nat} : ∀ (ds : List Nat) {F : List Nat}, FOk n F → (∀ d, d ∈ ds → d < n) → FOk n (fstL F ds)
  | [], F, h, _ => h
  | d :: ds, F, h, hd => FOk.fst ds (h.add (hd d List.mem_cons_self)) fun x hx => hd x (List.mem_cons_of_mem _ hx)
theorem hasE_add {F : List Nat} {d x : Nat} : hasE (fstAdd F d) x = true ↔ hasE F x = true ∨ d / 2 = x / 2 := by
  unfold fstAdd
  by_cases hh : hasE F d = true
  · rw [if_pos hh]
    refine ⟨Or.inl, fun h => h.elim id fun e => ?_⟩
    obtain ⟨i, hi, e1⟩ := hasE_iff.1 hh
    exact hasE_iff.2 ⟨i, hi, e1.trans e⟩
  · rw [if_neg hh]
    unfold hasE
    rw [List.any_append, Bool.or_eq_true]
    simp
theorem hasE_fst : ∀ (ds : List Nat) {F : List Nat} {x : Nat}, hasE (fstL F ds) x = true ↔ hasE F x = true ∨ ∃ d, d ∈ ds ∧ d / 2 = x / 2
  | [], F, x => ⟨Or.inl, fun h => h.elim id fun ⟨d, hd, _⟩ => by cases hd⟩
  | d :: ds, F, x => by
    show hasE (fstL (fstAdd F d) ds) x = true ↔ _
    rw [hasE_fst ds, hasE_add]
    constructor
    · rintro ((h | h) | ⟨y, hy, e⟩)
      · exact Or.inl h
      · exact Or.inr ⟨d, List.mem_cons_self, h⟩
      · exact Or.inr ⟨y, List.mem_cons_of_mem _ hy, e⟩
    · rintro (h | ⟨y, hy, e⟩)
      · exact Or.inl (Or.inl h)
      · rcases List.mem_cons.1 hy with rfl | hy
        · exact Or.inl (Or.inr e)
        · exact Or.inr ⟨y, hy, e⟩
theorem idx_of {n : Nat} {F : List Nat} (h : FOk n F) {i d : Nat} (hi : i < F.length) (e : at' F i / 2 = d / 2) : idxE F d = i := by
  have hl : F.findIdx (fun x => decide (x / 2 = d / 2)) < F.length := List.findIdx_lt_length_of_exists ⟨F[i], List.getElem_mem hi, by rw [at'_eq hi] at e; simpa using e⟩
  have hp := List.findIdx_getElem (w := hl)
  refine h.one _ _ hl hi ?_
  rw [e]
  show at' F (idxE F d) / 2 = d / 2
  rw [show at' F (idxE F d) = F[F.findIdx (fun x => decide (x / 2 = d / 2))] from at'_eq hl]
  simpa using hp
theorem nm_at {n : Nat} {F : List Nat} (h : FOk n F) {i : Nat} (hi : i < F.length) : nmF F (at' F i) = 2 * i := by
  unfold nmF
  rw [idx_of h hi rfl, if_pos rfl, Nat.add_zero]
theorem nm_mate {n : Nat} {F : List Nat} (h : FOk n F) {i : Nat} (hi : i < F.length) : nmF F (at' F i ^^^ 1) = 2 * i + 1 := by
  unfold nmF
  rw [idx_of h hi (xor_one_div _).symm, if_neg (xor_one_ne _).symm]
theorem nm_cases {n : Nat} {F : List Nat} (h : FOk n F) {d : Nat} (hd : hasE F d = true) : ∃ i, i < F.length ∧ (d = at' F i ∧ nmF F d = 2 * i ∨ d = at' F i ^^^ 1 ∧ nmF F d = 2 * i + 1) := by
  obtain ⟨i, hi, e⟩ := hasE_iff.1 hd
  refine ⟨i, hi, ?_⟩
  rcases half_eq e.symm with e1 | e1
  · exact Or.inl ⟨e1, by rw [e1, nm_at h hi]⟩
  · exact Or.inr ⟨e1, by rw [e1, nm_mate h hi]⟩
/-- a new edge's names are the next ones -/
theorem namesF_add {n : Nat} {F : List Nat} (h : FOk n F) (he : n % 2 = 0) {d : Nat} (hd : d < n) (hno : hasE F d = false) :
    ((namesF n F).set d ((2 * F.length : Nat) : Int)).set (d ^^^ 1) ((2 * F.length + 1 : Nat) : Int) = namesF n (F ++ [d]) := by
  have hno' : ¬ hasE F d = true := by rw [hno]; simp
  have hadd : fstAdd F d = F ++ [d] := by unfold fstAdd; rw [if_neg hno']
  have hok : FOk n (F ++ [d]) := by rw [← hadd]; exact h.add hd
  have hlen : F.length < (F ++ [d]).length := by simp
  refine List.ext_getElem (by simp [namesF]) fun x h1 h2 => ?_
  have hx : x < n := by simpa [namesF] using h2
  rw [List.getElem_set, List.getElem_set]
  have e0 : ∀ G, (namesF n G)[x]'(by simp [namesF]; exact hx) = nmI G x := fun G => by simp [namesF]
  rw [e0, e0]
  have hhas : hasE (F ++ [d]) x = true ↔ hasE F x = true ∨ d / 2 = x / 2 := by rw [← hadd]; exact hasE_add
  by_cases e1 : d ^^^ 1 = x
  · rw [if_pos e1]
    unfold nmI
    rw [if_pos (hhas.2 (Or.inr (by rw [← e1, xor_one_div])))]
    have := nm_mate hok hlen
    rw [at_app_last, e1] at this
    rw [this]
  · rw [if_neg e1]
    by_cases e2 : d = x
    · rw [if_pos e2]
      unfold nmI
      rw [if_pos (hhas.2 (Or.inr (by rw [e2])))]
      have := nm_at hok hlen
      rw [at_app_last] at this
      rw [← e2, this]
    · rw [if_neg e2]
      have e3 : ¬ d / 2 = x / 2 := fun e => (half_eq e).elim (fun k => e2 k) fun k => e1 (by rw [k, xor_one_one])
      unfold nmI
      by_cases hF : hasE F x = true
      · rw [if_pos hF, if_pos (hhas.2 (Or.inl hF))]
        obtain ⟨i, hi, k⟩ := nm_cases h hF
        have hi' : i < (F ++ [d]).length := by simp; omega
        have m1 := nm_at hok hi'
        have m2 := nm_mate hok hi'
        rw [at_app hi] at m1 m2
        rcases k with ⟨k1, k2⟩ | ⟨k1, k2⟩
        · rw [k2, k1, m1]
        · rw [k2, k1, m2]
      · rw [if_neg hF, if_neg (fun k => (hhas.1 k).elim hF e3)]

/-- all names -/
def canP (n : Nat) (F : List Nat) : List Nat := (List.range n).map (nmF F)
theorem canP_length (n : Nat) (F : List Nat) : (canP n F).length = n := by simp [canP]
theorem canP_at {n : Nat} {F : List Nat} {d : Nat} (h : d < n) : at' (canP n F) d = nmF F d := by simp [canP, at', h]
theorem namesF_all {n : Nat} {F : List Nat} (hall : ∀ d, d < n → hasE F d = true) : namesF n F = toI (canP n F) := by
  unfold namesF canP toI
  rw [List.map_map]
  refine List.map_congr_left fun d hd => ?_
  unfold nmI
  rw [if_pos (hall d (List.mem_range.1 hd))]
  rfl
section
variable {n : Nat} {F : List Nat} (h : FOk n F) (he : n % 2 = 0) (hall : ∀ d, d < n → hasE F d = true)
include h he hall
theorem canF_length : 2 * F.length = n := by
  have hnd : (F.map (fun x => x / 2)).Nodup := by
    rw [List.nodup_iff_pairwise_ne, List.pairwise_iff_getElem]
    intro i j hi hj hij e
    simp only [List.getElem_map] at e
    rw [List.length_map] at hi hj
    have := h.one i j hi hj (by rw [at'_eq hi, at'_eq hj]; exact e)
    omega
  have h1 : (F.map (fun x => x / 2)).length ≤ (List.range (n / 2)).length := hnd.length_le_of_subset fun x hx => by
    obtain ⟨y, hy, rfl⟩ := List.mem_map.1 hx
    obtain ⟨i, hi, rfl⟩ := List.getElem_of_mem hy
    have := h.lt i hi
    rw [at'_eq hi] at this
    exact List.mem_range.2 (by omega)
  have h2 : (List.range (n / 2)).length ≤ (F.map (fun x => x / 2)).length := List.nodup_range.length_le_of_subset fun x hx => by
    have hx := List.mem_range.1 hx
    obtain ⟨i, hi, e⟩ := hasE_iff.1 (hall (2 * x) (by omega))
    rw [at'_eq hi] at e
    exact List.mem_map.2 ⟨F[i], List.getElem_mem hi, by omega⟩
  simp at h1 h2
  omega
theorem canP_perm : IsPerm (canP n F) := by
  have hl := canF_length h he hall
  refine IsPerm.of_inj (fun i hi => ?_) (fun i j hi hj e => ?_)
  · rw [canP_length] at hi ⊢
    rw [canP_at hi]
    obtain ⟨k, hk, ⟨_, e⟩ | ⟨_, e⟩⟩ := nm_cases h (hall i hi) <;> omega
  · rw [canP_length] at hi hj
    rw [canP_at hi, canP_at hj] at e
    obtain ⟨k, hk, ⟨a1, a2⟩ | ⟨a1, a2⟩⟩ := nm_cases h (hall i hi) <;> obtain ⟨m, hm, ⟨b1, b2⟩ | ⟨b1, b2⟩⟩ := nm_cases h (hall j hj)
    · have : k = m := by omega
      rw [a1, b1, this]
    · omega
    · omega
    · have : k = m := by omega
      rw [a1, b1, this]
theorem canP_mates : Mates (canP n F) := fun d hd => by
  rw [canP_length] at hd
  rw [canP_at hd, canP_at (xor_one_lt he hd)]
  obtain ⟨k, hk, ⟨a1, a2⟩ | ⟨a1, a2⟩⟩ := nm_cases h (hall d hd)
  · rw [a2, a1, nm_mate h hk, xor_even]
  · rw [a2, a1, xor_one_one, nm_at h hk, xor_odd]
end

/-- the darts of one's part, as they are walked -/
noncomputable def walkD (s : List Nat) (r : Nat) : List Nat := (List.range (partC' s r)).map (wd s (sizesL s).length r)
/-- where the other parts are walked from -/
def firstB (N : List Int) (root d : Nat) : Bool := !decide (nth N d = nth N root) && (List.range d).all fun x => !decide (nth N x = nth N d)
def restTo (N : List Int) (root k : Nat) : List Nat := (List.range k).filter (firstB N root)
theorem restTo_succ (N : List Int) (root k : Nat) : restTo N root (k + 1) = if firstB N root k = true then restTo N root k ++ [k] else restTo N root k := by
  unfold restTo
  rw [List.range_succ, List.filter_append]
  by_cases h : firstB N root k = true
  · rw [if_pos h]; simp [h]
  · rw [if_neg h]; simp [h]
def rootsL (s : List Nat) (root : Nat) : List Nat := root :: restTo (partsL s) root s.length
noncomputable def canD (s : List Nat) (root : Nat) : List Nat := if s.length = 0 then [] else (rootsL s root).flatMap (walkD s)
noncomputable def canF (s : List Nat) (root : Nat) : List Nat := fstL [] (canD s root)
/-- the canonical names -/
noncomputable def canL (s : List Nat) (root : Nat) : List Nat := canP s.length (canF s root)

theorem firstB_iff {N : List Int} {root d : Nat} : firstB N root d = true ↔ nth N d ≠ nth N root ∧ ∀ x, x < d → nth N x ≠ nth N d := by
  unfold firstB
  rw [Bool.and_eq_true, List.all_eq_true]
  constructor
  · rintro ⟨h1, h2⟩
    exact ⟨by simpa using h1, fun x hx => by simpa using h2 x (List.mem_range.2 hx)⟩
  · rintro ⟨h1, h2⟩
    exact ⟨by simpa using h1, fun x hx => by simpa using h2 x (List.mem_range.1 hx)⟩
theorem rootsL_lt {s : List Nat} {root : Nat} (hr : root < s.length) : ∀ r, r ∈ rootsL s root → r < s.length := fun r h => by
  rcases List.mem_cons.1 h with rfl | h
  · exact hr
  · exact List.mem_range.1 (List.mem_filter.1 h).1
section
variable {s : List Nat} (hs : IsPerm s) (he : s.length % 2 = 0)
include hs he
theorem mem_walkD {r x : Nat} (hr : r < s.length) : x ∈ walkD s r ↔ Con s r x := by
  obtain ⟨h1, h2, h3⟩ := wlen hs he hr (V := (sizesL s).length) (Nat.le_refl _)
  rw [wall hs he hr (V := (sizesL s).length) (Nat.le_refl _) h2 h1 h3]
  unfold walkD
  constructor
  · intro h
    obtain ⟨j, hj, e⟩ := List.mem_map.1 h
    exact ⟨j, List.mem_range.1 hj, e⟩
  · rintro ⟨j, hj, e⟩
    exact List.mem_map.2 ⟨j, List.mem_range.2 hj, e⟩
theorem rootsL_all {root : Nat} (hr : root < s.length) {x : Nat} (hx : x < s.length) : ∃ r, r ∈ rootsL s root ∧ Con s r x := by
  have hrel := (partsL_ord hs he).rel
  by_cases e : nth (partsL s) x = nth (partsL s) root
  · exact ⟨root, List.mem_cons_self, (hrel _ _ hr hx).1 e.symm⟩
  · obtain ⟨l, hl, hc, hm⟩ := (Con.per hs).least x hx
    have hln : l < s.length := by omega
    have h1 : nth (partsL s) l = nth (partsL s) x := (hrel _ _ hln hx).2 hc
    refine ⟨l, List.mem_cons_of_mem _ (List.mem_filter.2 ⟨List.mem_range.2 hln, firstB_iff.2 ⟨by rw [h1]; exact e, fun y hy k => hm y hy ((hrel _ _ (by omega) hln).1 k)⟩⟩), hc⟩
theorem canD_lt {root : Nat} (hr : root < s.length) : ∀ d, d ∈ canD s root → d < s.length := fun d h => by
  unfold canD at h
  rw [if_neg (by omega)] at h
  obtain ⟨r, h1, h2⟩ := List.mem_flatMap.1 h
  exact (Con.per hs).cod ((mem_walkD hs he (rootsL_lt hr r h1)).1 h2)
theorem canF_ok {root : Nat} (hr : root < s.length) : FOk s.length (canF s root) := FOk.fst _ (FOk.nil _) (canD_lt hs he hr)
theorem canF_all {root : Nat} (hr : root < s.length) : ∀ d, d < s.length → hasE (canF s root) d = true := fun d hd => by
  unfold canF
  rw [hasE_fst]
  obtain ⟨r, h1, h2⟩ := rootsL_all hs he hr hd
  refine Or.inr ⟨d, ?_, rfl⟩
  unfold canD
  rw [if_neg (by omega)]
  exact List.mem_flatMap.2 ⟨r, h1, (mem_walkD hs he (rootsL_lt hr r h1)).2 h2⟩
theorem canL_perm {root : Nat} (hr : root < s.length) : IsPerm (canL s root) := canP_perm (canF_ok hs he hr) he (canF_all hs he hr)
theorem canL_mates {root : Nat} (hr : root < s.length) : Mates (canL s root) := canP_mates (canF_ok hs he hr) he (canF_all hs he hr)
/-- the root's name is nought -/
theorem canL_root {root : Nat} (hr : root < s.length) : at' (canL s root) root = 0 := by
  have hok := canF_ok hs he hr
  unfold canL
  rw [canP_at hr]
  have h0 : ∃ l, canF s root = root :: l := by
    have hp := (wlen hs he hr (V := (sizesL s).length) (Nat.le_refl _)).2.1
    obtain ⟨p, hpp⟩ : ∃ p, partC' s root = p + 1 := ⟨partC' s root - 1, by omega⟩
    have e1 : ∃ l, canD s root = root :: l := by
      unfold canD rootsL walkD
      rw [if_neg (by omega), List.flatMap_cons, hpp, List.range_succ_eq_map]
      exact ⟨_, rfl⟩
    obtain ⟨l, e1⟩ := e1
    have keep : ∀ (ds : List Nat) (F : List Nat), (∃ l, F = root :: l) → ∃ l, fstL F ds = root :: l := fun ds => by
      induction ds with
      | nil => exact fun F h => h
      | cons d ds ih =>
        rintro F ⟨l, rfl⟩
        refine ih _ ?_
        unfold fstAdd
        split
        · exact ⟨l, rfl⟩
        · exact ⟨l ++ [d], rfl⟩
    unfold canF
    rw [e1]
    exact keep l _ ⟨[], rfl⟩
  obtain ⟨l, hl⟩ := h0
  have := nm_at hok (i := 0) (by rw [hl]; simp)
  rw [hl] at this ⊢
  exact this
end

end Go.Proofs.Ytlbhmonpfchocaa
