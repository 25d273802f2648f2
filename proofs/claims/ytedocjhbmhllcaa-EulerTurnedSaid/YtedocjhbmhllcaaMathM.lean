/- Turned the other way around each vertex a map has the same parts. Conditions: none. -/
import Derived.Test.YtedocjhbmhllcaaEulE
import Derived.Test.YtedocjhbmhllcaaMathE
namespace Go.Proofs.Ytedocjhbmhllcaa
set_option linter.unusedVariables false

theorem invL_length (s : List Nat) : (invL s).length = s.length := by unfold invL; rw [invGo_length]
theorem invL_perm {s : List Nat} (hs : IsPerm s) : IsPerm (invL s) := by
  refine IsPerm.of_inj (fun i hi => ?_) (fun i j hi hj e => ?_)
  · rw [invL_length] at hi ⊢
    exact (at_invL hs hi).2
  · rw [invL_length] at hi hj
    rw [← (at_invL hs hi).1, ← (at_invL hs hj).1, e]

theorem Ord.congr {n : Nat} {r q : Nat → Nat → Prop} {N : List Int} {cnt : Nat → Nat} (h : Ord n r N cnt) (e : ∀ x y, x < n → y < n → (r x y ↔ q x y)) : Ord n q N cnt :=
  ⟨h.len, fun x y hx hy => (h.rel x y hx hy).trans (e x y hx hy), h.zero, h.ord⟩

section
variable {s : List Nat} (hs : IsPerm s) (he : s.length % 2 = 0)
include hs

theorem cyc_inv (x y : Nat) (hx : x < s.length) (hy : y < s.length) : cyc s.length (at' (invL s)) x y ↔ cyc s.length (at' s) x y := by
  have hp : Pm s.length (at' (invL s)) := by have := (invL_perm hs).pm; rwa [invL_length] at this
  constructor
  · exact hp.cyc_sub hs.pm.per fun z hz => by
      have h := hs.pm.step (at_invL hs hz).2
      rw [(at_invL hs hz).1] at h
      exact hs.pm.per.symm h
  · exact hs.pm.cyc_sub hp.per fun z hz => by
      have h := hp.step (hs.lt hz)
      rw [invL_at hs hz] at h
      exact hp.per.symm h

theorem namesL_inv : namesL (invL s) = namesL s := by
  have h1 := namesL_ord (invL_perm hs)
  rw [invL_length] at h1
  exact (h1.congr (cyc_inv hs)).unique (namesL_ord hs)

include he

theorem con_inv (x y : Nat) (hx : x < s.length) (hy : y < s.length) : Con (invL s) x y ↔ Con s x y := by
  have hi := invL_perm hs
  have hil := invL_length s
  have hp1 : Per s.length (Con (invL s)) := by have := Con.per hi; rwa [hil] at this
  constructor
  · refine fun h => Con.sub hi (r := Con s) (by rw [hil]; exact Con.per hs) (fun z hz => ?_) (fun z hz => ?_) h
    · rw [hil] at hz
      have h := Con.step hs (at_invL hs hz).2
      rw [(at_invL hs hz).1] at h
      exact (Con.per hs).symm h
    · rw [hil] at hz
      exact Con.mate hs he hz
  · refine fun h => Con.sub hs (r := Con (invL s)) hp1 (fun z hz => ?_) (fun z hz => ?_) h
    · have h := Con.step hi (x := at' s z) (by rw [hil]; exact hs.lt hz)
      rw [invL_at hs hz] at h
      exact hp1.symm h
    · exact Con.mate hi (by rw [hil]; exact he) (by rw [hil]; exact hz)

theorem partsL_inv : partsL (invL s) = partsL s := by
  have h1 := partsL_ord (invL_perm hs) (by rw [invL_length]; exact he)
  rw [invL_length] at h1
  exact (h1.congr (con_inv hs he)).unique (partsL_ord hs he)

theorem partsN_inv : partsN (invL s) = partsN s := by
  have h1 := partsL_ord (invL_perm hs) (by rw [invL_length]; exact he)
  rw [invL_length] at h1
  have a := (h1.congr (con_inv hs he)).cnt_eq (Nat.le_refl _)
  have b := (partsL_ord hs he).cnt_eq (Nat.le_refl _)
  unfold partsN
  rw [invL_length]
  exact a.trans b.symm

/-- a step along the face of the one, seen from the mate, is a step back along the face of the other -/
theorem phi_inv {x : Nat} (hx : x < s.length) : at' (phiL s) (at' (phiL (invL s)) x ^^^ 1) = x ^^^ 1 ∧ at' (phiL (invL s)) x < s.length := by
  have hxm := xor_one_lt he hx
  have e1 : at' (phiL (invL s)) x = at' (invL s) (x ^^^ 1) := phiL_at (by rw [invL_length]; exact hx)
  rw [e1]
  have h := at_invL hs hxm
  refine ⟨?_, h.2⟩
  rw [phiL_at (xor_one_lt he h.2), xor_one_one]
  exact h.1

theorem cyc_phi_inv (x y : Nat) (hx : x < s.length) (hy : y < s.length) : cyc s.length (at' (phiL (invL s))) x y ↔ cyc s.length (at' (phiL s)) (x ^^^ 1) (y ^^^ 1) := by
  have hp : Pm s.length (at' (phiL s)) := by have := (phiL_perm hs he).pm; rwa [phiL_length] at this
  have hq : Pm s.length (at' (phiL (invL s))) := by have := (phiL_perm (invL_perm hs) (by rw [invL_length]; exact he)).pm; rwa [phiL_length, invL_length] at this
  have per1 : Per s.length (fun x y => cyc s.length (at' (phiL s)) (x ^^^ 1) (y ^^^ 1)) := ⟨fun h => hp.per.refl (xor_one_lt he h), fun h => hp.per.symm h, fun h k => hp.per.trans h k, fun {x y} h => by
    have := xor_one_lt he (hp.per.dom h); rwa [xor_one_one] at this⟩
  have per2 : Per s.length (fun x y => cyc s.length (at' (phiL (invL s))) (x ^^^ 1) (y ^^^ 1)) := ⟨fun h => hq.per.refl (xor_one_lt he h), fun h => hq.per.symm h, fun h k => hq.per.trans h k, fun {x y} h => by
    have := xor_one_lt he (hq.per.dom h); rwa [xor_one_one] at this⟩
  constructor
  · refine fun h => hq.cyc_sub per1 (fun z hz => ?_) h
    obtain ⟨e, hl⟩ := phi_inv hs he hz
    have h := hp.step (xor_one_lt he hl)
    rw [e] at h
    exact hp.per.symm h
  · intro h
    have key : ∀ {a b}, cyc s.length (at' (phiL s)) a b → cyc s.length (at' (phiL (invL s))) (a ^^^ 1) (b ^^^ 1) := fun {a b} h => hp.cyc_sub per2 (fun z hz => by
      -- z is the mate of a face step of some x
      obtain ⟨w, hw, ew⟩ := (phiL_perm (invL_perm hs) (by rw [invL_length]; exact he)).surj (y := z ^^^ 1) (by rw [phiL_length, invL_length]; exact xor_one_lt he hz)
      rw [phiL_length, invL_length] at hw
      have e := (phi_inv hs he hw).1
      rw [ew, xor_one_one] at e
      have h := hq.step hw
      rw [ew] at h
      rw [e, xor_one_one]
      exact hq.per.symm h) h
    have := key h
    rwa [xor_one_one, xor_one_one] at this

end

/-- as many classes, where one set of them is the other's seen through the mates -/
theorem cls_mates {n : Nat} {r q : Nat → Nat → Prop} (hr : Per n r) (hq : Per n q) (hn : n % 2 = 0) {P : Nat → Prop} (hP : ∀ x y, P x → r x y → P y) (hm : ∀ x, x < n → (P (x ^^^ 1) ↔ P x)) (h : ∀ x y, x < n → y < n → (q x y ↔ r (x ^^^ 1) (y ^^^ 1))) :
    cls q P n ≤ cls r P n := by
  have hex : ∀ x, ∃ l, x < n → l ≤ x ^^^ 1 ∧ r l (x ^^^ 1) ∧ Least r l := fun x => by
    by_cases hx : x < n
    · obtain ⟨l, h1, h2, h3⟩ := hr.least (x ^^^ 1) (xor_one_lt hn hx)
      exact ⟨l, fun _ => ⟨h1, h2, h3⟩⟩
    · exact ⟨0, fun h => absurd h hx⟩
  refine tally_inj (fun x => Classical.choose (hex x)) (fun x hx hp => ?_) (fun x y hx hy hp hp' e => ?_)
  · obtain ⟨h1, h2, h3⟩ := Classical.choose_spec (hex x) hx
    exact ⟨hr.dom h2, hP _ _ ((hm x hx).2 hp.1) (hr.symm h2), h3⟩
  · obtain ⟨_, h2, _⟩ := Classical.choose_spec (hex x) hx
    obtain ⟨_, k2, _⟩ := Classical.choose_spec (hex y) hy
    have e : Classical.choose (hex x) = Classical.choose (hex y) := e
    rw [← e] at k2
    exact hq.least_one hp.2 hp'.2 ((h x y hx hy).2 (hr.trans (hr.symm h2) k2))

theorem vcnt_inv {s : List Nat} (hs : IsPerm s) (he : s.length % 2 = 0) (k : Int) : vcnt (invL s) (partsL s) k s.length = vcnt s (partsL s) k s.length ∧ vcnt (phiL (invL s)) (partsL s) k s.length = vcnt (phiL s) (partsL s) k s.length := by
  have hi := invL_perm hs
  have hil := invL_length s
  have hpp := phiL_perm hs he
  have hip := phiL_perm hi (by rw [hil]; exact he)
  constructor
  · have h1 := vcnt_tally hi (partsL s) k (j := s.length) (by rw [hil]; exact Nat.le_refl _)
    rw [hil] at h1
    rw [h1, vcnt_tally hs (partsL s) k (Nat.le_refl _)]
    exact cls_congr (P := fun x => nth (partsL s) x = k) (cyc_inv hs)
  · have h1 := vcnt_tally hip (partsL s) k (j := s.length) (by rw [phiL_length, hil]; exact Nat.le_refl _)
    have h2 := vcnt_tally hpp (partsL s) k (j := s.length) (by rw [phiL_length]; exact Nat.le_refl _)
    rw [phiL_length, hil] at h1
    rw [phiL_length] at h2
    rw [h1, h2]
    have p1 : Per s.length (cyc s.length (at' (phiL s))) := by have := hpp.pm.per; rwa [phiL_length] at this
    have p2 : Per s.length (cyc s.length (at' (phiL (invL s)))) := by have := hip.pm.per; rwa [phiL_length, hil] at this
    have hm : ∀ x, x < s.length → (nth (partsL s) (x ^^^ 1) = k ↔ nth (partsL s) x = k) := fun x hx => by rw [partsL_mate hs he hx]
    have cl : ∀ x y, nth (partsL s) x = k → cyc s.length (at' (phiL s)) x y → nth (partsL s) y = k := fun x y hx hc => by
      have hc' : Con s x y := by
        have hq : Pm s.length (at' (phiL s)) := by have := hpp.pm; rwa [phiL_length] at this
        refine hq.cyc_sub (Con.per hs) (fun z hz => ?_) hc
        rw [phiL_at hz]
        exact (Con.per hs).trans (Con.mate hs he hz) (Con.step hs (xor_one_lt he hz))
      rw [← hx]
      exact ((partsL_ord hs he).rel y x (p1.cod hc) (p1.dom hc)).2 ((Con.per hs).symm hc')
    have cl2 : ∀ x y, nth (partsL s) x = k → cyc s.length (at' (phiL (invL s))) x y → nth (partsL s) y = k := fun x y hx hc => by
      have hxl := p2.dom hc
      have hyl := p2.cod hc
      have := cl _ _ ((hm x hxl).2 hx) ((cyc_phi_inv hs he x y hxl hyl).1 hc)
      exact (hm y hyl).1 this
    exact Nat.le_antisymm (cls_mates p1 p2 he (P := fun x => nth (partsL s) x = k) cl hm (cyc_phi_inv hs he))
      (cls_mates p2 p1 he (P := fun x => nth (partsL s) x = k) cl2 hm (fun x y hx hy => by
        rw [cyc_phi_inv hs he _ _ (xor_one_lt he hx) (xor_one_lt he hy), xor_one_one, xor_one_one]))

theorem genOf_inv {s : List Nat} (hs : IsPerm s) (he : s.length % 2 = 0) (k : Nat) : genOf (invL s) (partsL (invL s)) k = genOf s (partsL s) k := by
  unfold genOf
  rw [partsL_inv hs he, invL_length, (vcnt_inv hs he (k : Int)).1, (vcnt_inv hs he (k : Int)).2]

theorem partsF_inv {s : List Nat} (hs : IsPerm s) (he : s.length % 2 = 0) : partsF (invL s) = partsF s := by
  funext k
  unfold partsF
  rw [partsN_inv hs he]
  unfold partF
  rw [genOf_inv hs he]
  unfold partAt
  rw [partsL_inv hs he, invL_length, (vcnt_inv hs he (k : Int)).1, (vcnt_inv hs he (k : Int)).2]

theorem genusTo_inv {s : List Nat} (hs : IsPerm s) (he : s.length % 2 = 0) : ∀ k, genusTo (invL s) k = genusTo s k
  | 0 => rfl
  | k + 1 => by unfold genusTo; rw [genusTo_inv hs he k, genOf_inv hs he]
theorem genusL_inv {s : List Nat} (hs : IsPerm s) (he : s.length % 2 = 0) : genusL (invL s) = genusL s := by
  unfold genusL; rw [partsN_inv hs he, genusTo_inv hs he]

theorem loopB_inv {s : List Nat} (hs : IsPerm s) (e : Nat) : loopB (invL s) e = loopB s e := by unfold loopB; rw [namesL_inv hs]
theorem dblB_inv {s : List Nat} (hs : IsPerm s) (e : Nat) : dblB (invL s) e = dblB s e := by
  unfold dblB pairB; rw [loopB_inv hs, namesL_inv hs]
theorem loopsTo_inv {s : List Nat} (hs : IsPerm s) : ∀ e, loopsTo (invL s) e = loopsTo s e
  | 0 => rfl
  | e + 1 => by unfold loopsTo; rw [loopsTo_inv hs e, loopB_inv hs]
theorem dblsTo_inv {s : List Nat} (hs : IsPerm s) : ∀ e, dblsTo (invL s) e = dblsTo s e
  | 0 => rfl
  | e + 1 => by unfold dblsTo; rw [dblsTo_inv hs e, dblB_inv hs]
theorem dblsL_inv {s : List Nat} (hs : IsPerm s) : dblsL (invL s) = dblsL s := by unfold dblsL; rw [invL_length, dblsTo_inv hs]
theorem simpB_inv {s : List Nat} (hs : IsPerm s) : simpB (invL s) = simpB s := by unfold simpB loopsL; rw [dblsL_inv hs, invL_length, loopsTo_inv hs]

theorem triTo_iff {s : List Nat} : ∀ {n : Nat}, triTo s n = true ↔ ∀ d, d < n → at' (phiL s) (at' (phiL s) (at' (phiL s) d)) = d ∧ at' (phiL s) d ≠ d
  | 0 => by simp [triTo]
  | n + 1 => by
    show (triTo s n && (at' (phiL s) (at' (phiL s) (at' (phiL s) n)) == n && !(at' (phiL s) n == n))) = true ↔ _
    rw [Bool.and_eq_true, triTo_iff, Bool.and_eq_true, beq_iff_eq]
    constructor
    · rintro ⟨h1, h2, h3⟩ d hd
      by_cases e : d = n
      · subst e; exact ⟨h2, by simpa using h3⟩
      · exact h1 d (by omega)
    · intro h
      exact ⟨fun d hd => h d (by omega), (h n (by omega)).1, by simpa using (h n (by omega)).2⟩

theorem tri_half {s t : List Nat} (n : Nat) (hn : n % 2 = 0) (h : ∀ x, x < n → at' (phiL s) (at' (phiL t) x ^^^ 1) = x ^^^ 1 ∧ at' (phiL t) x < n) (hs : ∀ d, d < n → at' (phiL s) (at' (phiL s) (at' (phiL s) d)) = d ∧ at' (phiL s) d ≠ d) :
    ∀ d, d < n → at' (phiL t) (at' (phiL t) (at' (phiL t) d)) = d ∧ at' (phiL t) d ≠ d := fun d hd => by
  obtain ⟨e1, l1⟩ := h d hd
  obtain ⟨e2, l2⟩ := h _ l1
  obtain ⟨e3, l3⟩ := h _ l2
  have h3 := (hs _ (xor_one_lt hn l3)).1
  rw [e3, e2, e1] at h3
  refine ⟨?_, fun e => ?_⟩
  · have := congrArg (· ^^^ 1) h3
    simp only [xor_one_one] at this
    exact this.symm
  · rw [e] at e1
    exact (hs _ (xor_one_lt hn hd)).2 e1

theorem triB_inv {s : List Nat} (hs : IsPerm s) (he : s.length % 2 = 0) (l : Nat) : triB (invL s) l = triB s l := by
  have hz : (sizesL (invL s)).length = (sizesL s).length := by unfold sizesL; rw [namesL_inv hs]
  have ht : triTo (invL s) s.length = triTo s s.length := by
    rw [Bool.eq_iff_iff, triTo_iff, triTo_iff]
    constructor
    · refine tri_half (s := invL s) (t := s) s.length he fun x hx => ?_
      have hxm := xor_one_lt he hx
      rw [phiL_at hx, phiL_at (by rw [invL_length]; exact xor_one_lt he (hs.lt hxm)), xor_one_one]
      exact ⟨invL_at hs hxm, hs.lt hxm⟩
    · exact tri_half (s := s) (t := invL s) s.length he fun x hx => phi_inv hs he hx
  unfold triB
  rw [hz, partsN_inv hs he, genusL_inv hs he, simpB_inv hs, invL_length, ht]

end Go.Proofs.Ytedocjhbmhllcaa
