/- euler.Doubles, Simple. Conditions: the map is registered. euler.Simple, Triangulation. Conditions: the map is registered. Turned the other way around each vertex a map has the same parts. Conditions: none. The dual has the same parts, of the same genus; the dual's dual is the map, the mirror's mirror too. Conditions: none. A turn by other names. Conditions: none. dual.with, Dual, Mirror. Conditions: the map is registered. A turn with an edge less: the edge's darts are passed by. Conditions: none. dual.less: own, name, pass. Conditions: the list is a turn, the dart comes out of the edge. dual.less: root, done. Conditions: the map is registered, the edge is there, the list is a turn. dual.less: done. Conditions: the map is registered, the edge is there, the list is a turn. dual.of; dual.less: bare. Conditions: the map is registered, the edge is there. dual.Cut, dual.Shrink. Conditions: the map is registered, the edge is there. Shrunk in the map, an edge is cut in the dual. Conditions: none. Edges are cut in any order; cut, a map has as many vertices, those that are left bare counted. Conditions: none. -/
import Derived.Test.YtlbhmonpfchocaaZCanonIso18
import Derived.Test.YtlbhmonpfchocaaZCanonIso20
import Derived.Test.YtlbhmonpfchocaaZCanonIso03
import Derived.Test.YtlbhmonpfchocaaZCanonIso12
import Derived.BigRegion
import Derived.StillTailTactics
namespace Go.Proofs.Ytlbhmonpfchocaa
open Go.RowKit Go.Maps
set_option linter.unusedVariables false

def loN (s : List Nat) (e : Nat) : Int := if nth (namesL s) (2 * e) ≤ nth (namesL s) (2 * e + 1) then nth (namesL s) (2 * e) else nth (namesL s) (2 * e + 1)
def hiN (s : List Nat) (e : Nat) : Int := if nth (namesL s) (2 * e) ≤ nth (namesL s) (2 * e + 1) then nth (namesL s) (2 * e + 1) else nth (namesL s) (2 * e)
def pcnt (s : List Nat) : Nat → Int → Int → Int
  | 0 => fun _ _ => 0
  | e + 1 => if loopB s e = true then pcnt s e else pairUp (pcnt s e) (loN s e) (hiN s e) (pcnt s e (loN s e) (hiN s e) + 1)

theorem pcnt_bound (s : List Nat) (a b : Int) : ∀ e, 0 ≤ pcnt s e a b ∧ pcnt s e a b ≤ e
  | 0 => ⟨Int.le_refl _, Int.le_refl _⟩
  | e + 1 => by
    have ih := pcnt_bound s a b e
    unfold pcnt
    split
    · omega
    · unfold pairUp
      split
      · rename_i h
        rw [← h.1, ← h.2]
        omega
      · omega

theorem pcnt_pos (s : List Nat) (a b : Int) : ∀ e, 0 < pcnt s e a b ↔ ∃ f, f < e ∧ ¬ loopB s f = true ∧ loN s f = a ∧ hiN s f = b
  | 0 => by simp [pcnt]
  | e + 1 => by
    have ih := pcnt_pos s a b e
    have hb := pcnt_bound s a b e
    unfold pcnt
    by_cases hl : loopB s e = true
    · rw [if_pos hl, ih]
      constructor
      · rintro ⟨f, h1, h2⟩; exact ⟨f, by omega, h2⟩
      · rintro ⟨f, h1, h2⟩
        refine ⟨f, ?_, h2⟩
        by_cases e' : f = e
        · subst e'; exact absurd hl h2.1
        · omega
    · rw [if_neg hl]
      unfold pairUp
      by_cases h : a = loN s e ∧ b = hiN s e
      · rw [if_pos h]
        refine ⟨fun _ => ⟨e, by omega, hl, h.1.symm, h.2.symm⟩, fun _ => ?_⟩
        rw [← h.1, ← h.2]; omega
      · rw [if_neg h, ih]
        constructor
        · rintro ⟨f, h1, h2⟩; exact ⟨f, by omega, h2⟩
        · rintro ⟨f, h1, h2⟩
          refine ⟨f, ?_, h2⟩
          by_cases e' : f = e
          · subst e'; exact absurd ⟨h2.2.1.symm, h2.2.2.symm⟩ h
          · omega

theorem dblB_iff {s : List Nat} {e : Nat} (hl : ¬ loopB s e = true) : dblB s e = true ↔ 0 < pcnt s e (loN s e) (hiN s e) := by
  rw [pcnt_pos]
  unfold dblB
  simp only [Bool.and_eq_true, List.any_eq_true, List.mem_range, Bool.not_eq_true']
  have hne : nth (namesL s) (2 * e) ≠ nth (namesL s) (2 * e + 1) := fun h => hl (by unfold loopB; rw [beq_iff_eq]; exact h)
  have key : ∀ f, (pairB s e f = true ↔ ¬ loopB s f = true ∧ loN s f = loN s e ∧ hiN s f = hiN s e) := fun f => by
    unfold pairB loopB loN hiN
    simp only [Bool.or_eq_true, Bool.and_eq_true, beq_iff_eq]
    split <;> split <;> omega
  constructor
  · rintro ⟨_, f, hf, hp⟩; exact ⟨f, hf, (key f).1 hp⟩
  · rintro ⟨f, hf, hp⟩; exact ⟨by simpa using hl, f, hf, (key f).2 hp⟩

end Go.Proofs.Ytlbhmonpfchocaa

namespace Go.Proofs.Ytlbhmonpfchocaa
open Go.RowKit
set_option linter.unusedVariables false

def simpB (s : List Nat) : Bool := decide (loopsL s = 0 ∧ dblsL s = 0)

/-- all borders have three -/
def triTo (s : List Nat) : Nat → Bool
  | 0 => true
  | d + 1 => triTo s d && (at' (phiL s) (at' (phiL s) (at' (phiL s) d)) == d && !(at' (phiL s) d == d))
def triB (s : List Nat) (lone : Nat) : Bool := decide (3 ≤ (sizesL s).length + lone) && (decide (partsN s + lone = 1) && ((genusL s == 0) && (simpB s && triTo s s.length)))
theorem triTo_le {s : List Nat} {d : Nat} : ∀ {n : Nat}, d ≤ n → triTo s n = true → triTo s d = true
  | 0, hd, h => by rw [show d = 0 by omega]; rfl
  | n + 1, hd, h => by
    by_cases e : d = n + 1
    · rw [e]; exact h
    · unfold triTo at h
      exact triTo_le (by omega) (Bool.and_eq_true_iff.1 h).1

end Go.Proofs.Ytlbhmonpfchocaa

namespace Go.Proofs.Ytlbhmonpfchocaa
set_option linter.unusedVariables false

theorem invL_length (s : List Nat) : (invL s).length = s.length := by unfold invL; rw [invGo_length]
theorem invL_perm {s : List Nat} (hs : IsPerm s) : IsPerm (invL s) := by
  refine IsPerm.of_inj (fun i hi => ?_) (fun i j hi hj e => ?_)
  · rw [invL_length] at hi ⊢
    exact (at_invL hs hi).2
  · rw [invL_length] at hi hj
    rw [← (at_invL hs hi).1, ← (at_invL hs hj).1, e]

theorem Ord.congr {n : Nat} {r q : Nat → Nat → Prop} {N : List Int} {cnt : Nat → Nat} (h : Ord n r N cnt) (e : ∀ x y, x < n → y < n → (r x y ↔ q x y)) : Ord n q N cnt :=
  ⟨h.len, fun x y hx hy => (h.rel x y hx hy).trans (e x y hx hy), h.zero, h.ord⟩

section
variable {s : List Nat} (hs : IsPerm s) (he : s.length % 2 = 0)
include hs

theorem cyc_inv (x y : Nat) (hx : x < s.length) (hy : y < s.length) : cyc s.length (at' (invL s)) x y ↔ cyc s.length (at' s) x y := by
  have hp : Pm s.length (at' (invL s)) := by have := (invL_perm hs).pm; rwa [invL_length] at this
  constructor
  · exact hp.cyc_sub hs.pm.per fun z hz => by
      have h := hs.pm.step (at_invL hs hz).2
      rw [(at_invL hs hz).1] at h
      exact hs.pm.per.symm h
  · exact hs.pm.cyc_sub hp.per fun z hz => by
      have h := hp.step (hs.lt hz)
      rw [invL_at hs hz] at h
      exact hp.per.symm h

theorem namesL_inv : namesL (invL s) = namesL s := by
  have h1 := namesL_ord (invL_perm hs)
  rw [invL_length] at h1
  exact (h1.congr (cyc_inv hs)).unique (namesL_ord hs)

include he

theorem con_inv (x y : Nat) (hx : x < s.length) (hy : y < s.length) : Con (invL s) x y ↔ Con s x y := by
  have hi := invL_perm hs
  have hil := invL_length s
  have hp1 : Per s.length (Con (invL s)) := by have := Con.per hi; rwa [hil] at this
  constructor
  · refine fun h => Con.sub hi (r := Con s) (by rw [hil]; exact Con.per hs) (fun z hz => ?_) (fun z hz => ?_) h
    · rw [hil] at hz
      have h := Con.step hs (at_invL hs hz).2
      rw [(at_invL hs hz).1] at h
      exact (Con.per hs).symm h
    · rw [hil] at hz
      exact Con.mate hs he hz
  · refine fun h => Con.sub hs (r := Con (invL s)) hp1 (fun z hz => ?_) (fun z hz => ?_) h
    · have h := Con.step hi (x := at' s z) (by rw [hil]; exact hs.lt hz)
      rw [invL_at hs hz] at h
      exact hp1.symm h
    · exact Con.mate hi (by rw [hil]; exact he) (by rw [hil]; exact hz)

theorem partsL_inv : partsL (invL s) = partsL s := by
  have h1 := partsL_ord (invL_perm hs) (by rw [invL_length]; exact he)
  rw [invL_length] at h1
  exact (h1.congr (con_inv hs he)).unique (partsL_ord hs he)

theorem partsN_inv : partsN (invL s) = partsN s := by
  have h1 := partsL_ord (invL_perm hs) (by rw [invL_length]; exact he)
  rw [invL_length] at h1
  have a := (h1.congr (con_inv hs he)).cnt_eq (Nat.le_refl _)
  have b := (partsL_ord hs he).cnt_eq (Nat.le_refl _)
  unfold partsN
  rw [invL_length]
  exact a.trans b.symm

/-- a step along the face of the one, seen from the mate, is a step back along the face of the other -/
theorem phi_inv {x : Nat} (hx : x < s.length) : at' (phiL s) (at' (phiL (invL s)) x ^^^ 1) = x ^^^ 1 ∧ at' (phiL (invL s)) x < s.length := by
  have hxm := xor_one_lt he hx
  have e1 : at' (phiL (invL s)) x = at' (invL s) (x ^^^ 1) := phiL_at (by rw [invL_length]; exact hx)
  rw [e1]
  have h := at_invL hs hxm
  refine ⟨?_, h.2⟩
  rw [phiL_at (xor_one_lt he h.2), xor_one_one]
  exact h.1

theorem cyc_phi_inv (x y : Nat) (hx : x < s.length) (hy : y < s.length) : cyc s.length (at' (phiL (invL s))) x y ↔ cyc s.length (at' (phiL s)) (x ^^^ 1) (y ^^^ 1) := by
  have hp : Pm s.length (at' (phiL s)) := by have := (phiL_perm hs he).pm; rwa [phiL_length] at this
  have hq : Pm s.length (at' (phiL (invL s))) := by have := (phiL_perm (invL_perm hs) (by rw [invL_length]; exact he)).pm; rwa [phiL_length, invL_length] at this
  have per1 : Per s.length (fun x y => cyc s.length (at' (phiL s)) (x ^^^ 1) (y ^^^ 1)) := ⟨fun h => hp.per.refl (xor_one_lt he h), fun h => hp.per.symm h, fun h k => hp.per.trans h k, fun {x y} h => by
    have := xor_one_lt he (hp.per.dom h); rwa [xor_one_one] at this⟩
  have per2 : Per s.length (fun x y => cyc s.length (at' (phiL (invL s))) (x ^^^ 1) (y ^^^ 1)) := ⟨fun h => hq.per.refl (xor_one_lt he h), fun h => hq.per.symm h, fun h k => hq.per.trans h k, fun {x y} h => by
    have := xor_one_lt he (hq.per.dom h); rwa [xor_one_one] at this⟩
  constructor
  · refine fun h => hq.cyc_sub per1 (fun z hz => ?_) h
    obtain ⟨e, hl⟩ := phi_inv hs he hz
    have h := hp.step (xor_one_lt he hl)
    rw [e] at h
    exact hp.per.symm h
  · intro h
    have key : ∀ {a b}, cyc s.length (at' (phiL s)) a b → cyc s.length (at' (phiL (invL s))) (a ^^^ 1) (b ^^^ 1) := fun {a b} h => hp.cyc_sub per2 (fun z hz => by
      -- z is the mate of a face step of some x
      obtain ⟨w, hw, ew⟩ := (phiL_perm (invL_perm hs) (by rw [invL_length]; exact he)).surj (y := z ^^^ 1) (by rw [phiL_length, invL_length]; exact xor_one_lt he hz)
      rw [phiL_length, invL_length] at hw
      have e := (phi_inv hs he hw).1
      rw [ew, xor_one_one] at e
      have h := hq.step hw
      rw [ew] at h
      rw [e, xor_one_one]
      exact hq.per.symm h) h
    have := key h
    rwa [xor_one_one, xor_one_one] at this

end

/-- as many classes, where one set of them is the other's seen through the mates -/
theorem cls_mates {n : Nat} {r q : Nat → Nat → Prop} (hr : Per n r) (hq : Per n q) (hn : n % 2 = 0) {P : Nat → Prop} (hP : ∀ x y, P x → r x y → P y) (hm : ∀ x, x < n → (P (x ^^^ 1) ↔ P x)) (h : ∀ x y, x < n → y < n → (q x y ↔ r (x ^^^ 1) (y ^^^ 1))) :
    cls q P n ≤ cls r P n := by
  have hex : ∀ x, ∃ l, x < n → l ≤ x ^^^ 1 ∧ r l (x ^^^ 1) ∧ Least r l := fun x => by
    by_cases hx : x < n
    · obtain ⟨l, h1, h2, h3⟩ := hr.least (x ^^^ 1) (xor_one_lt hn hx)
      exact ⟨l, fun _ => ⟨h1, h2, h3⟩⟩
    · exact ⟨0, fun h => absurd h hx⟩
  refine tally_inj (fun x => Classical.choose (hex x)) (fun x hx hp => ?_) (fun x y hx hy hp hp' e => ?_)
  · obtain ⟨h1, h2, h3⟩ := Classical.choose_spec (hex x) hx
    exact ⟨hr.dom h2, hP _ _ ((hm x hx).2 hp.1) (hr.symm h2), h3⟩
  · obtain ⟨_, h2, _⟩ := Classical.choose_spec (hex x) hx
    obtain ⟨_, k2, _⟩ := Classical.choose_spec (hex y) hy
    have e : Classical.choose (hex x) = Classical.choose (hex y) := e
    rw [← e] at k2
    exact hq.least_one hp.2 hp'.2 ((h x y hx hy).2 (hr.trans (hr.symm h2) k2))

theorem vcnt_inv {s : List Nat} (hs : IsPerm s) (he : s.length % 2 = 0) (k : Int) : vcnt (invL s) (partsL s) k s.length = vcnt s (partsL s) k s.length ∧ vcnt (phiL (invL s)) (partsL s) k s.length = vcnt (phiL s) (partsL s) k s.length := by
  have hi := invL_perm hs
  have hil := invL_length s
  have hpp := phiL_perm hs he
  have hip := phiL_perm hi (by rw [hil]; exact he)
  constructor
  · have h1 := vcnt_tally hi (partsL s) k (j := s.length) (by rw [hil]; exact Nat.le_refl _)
    rw [hil] at h1
    rw [h1, vcnt_tally hs (partsL s) k (Nat.le_refl _)]
    exact cls_congr (P := fun x => nth (partsL s) x = k) (cyc_inv hs)
  · have h1 := vcnt_tally hip (partsL s) k (j := s.length) (by rw [phiL_length, hil]; exact Nat.le_refl _)
    have h2 := vcnt_tally hpp (partsL s) k (j := s.length) (by rw [phiL_length]; exact Nat.le_refl _)
    rw [phiL_length, hil] at h1
    rw [phiL_length] at h2
    rw [h1, h2]
    have p1 : Per s.length (cyc s.length (at' (phiL s))) := by have := hpp.pm.per; rwa [phiL_length] at this
    have p2 : Per s.length (cyc s.length (at' (phiL (invL s)))) := by have := hip.pm.per; rwa [phiL_length, hil] at this
    have hm : ∀ x, x < s.length → (nth (partsL s) (x ^^^ 1) = k ↔ nth (partsL s) x = k) := fun x hx => by rw [partsL_mate hs he hx]
    have cl : ∀ x y, nth (partsL s) x = k → cyc s.length (at' (phiL s)) x y → nth (partsL s) y = k := fun x y hx hc => by
      have hc' : Con s x y := by
        have hq : Pm s.length (at' (phiL s)) := by have := hpp.pm; rwa [phiL_length] at this
        refine hq.cyc_sub (Con.per hs) (fun z hz => ?_) hc
        rw [phiL_at hz]
        exact (Con.per hs).trans (Con.mate hs he hz) (Con.step hs (xor_one_lt he hz))
      rw [← hx]
      exact ((partsL_ord hs he).rel y x (p1.cod hc) (p1.dom hc)).2 ((Con.per hs).symm hc')
    have cl2 : ∀ x y, nth (partsL s) x = k → cyc s.length (at' (phiL (invL s))) x y → nth (partsL s) y = k := fun x y hx hc => by
      have hxl := p2.dom hc
      have hyl := p2.cod hc
      have := cl _ _ ((hm x hxl).2 hx) ((cyc_phi_inv hs he x y hxl hyl).1 hc)
      exact (hm y hyl).1 this
    exact Nat.le_antisymm (cls_mates p1 p2 he (P := fun x => nth (partsL s) x = k) cl hm (cyc_phi_inv hs he))
      (cls_mates p2 p1 he (P := fun x => nth (partsL s) x = k) cl2 hm (fun x y hx hy => by
        rw [cyc_phi_inv hs he _ _ (xor_one_lt he hx) (xor_one_lt he hy), xor_one_one, xor_one_one]))

theorem genOf_inv {s : List Nat} (hs : IsPerm s) (he : s.length % 2 = 0) (k : Nat) : genOf (invL s) (partsL (invL s)) k = genOf s (partsL s) k := by
  unfold genOf
  rw [partsL_inv hs he, invL_length, (vcnt_inv hs he (k : Int)).1, (vcnt_inv hs he (k : Int)).2]

theorem partsF_inv {s : List Nat} (hs : IsPerm s) (he : s.length % 2 = 0) : partsF (invL s) = partsF s := by
  funext k
  unfold partsF
  rw [partsN_inv hs he]
  unfold partF
  rw [genOf_inv hs he]
  unfold partAt
  rw [partsL_inv hs he, invL_length, (vcnt_inv hs he (k : Int)).1, (vcnt_inv hs he (k : Int)).2]

theorem genusTo_inv {s : List Nat} (hs : IsPerm s) (he : s.length % 2 = 0) : ∀ k, genusTo (invL s) k = genusTo s k
  | 0 => rfl
  | k + 1 => by unfold genusTo; rw [genusTo_inv hs he k, genOf_inv hs he]
theorem genusL_inv {s : List Nat} (hs : IsPerm s) (he : s.length % 2 = 0) : genusL (invL s) = genusL s := by
  unfold genusL; rw [partsN_inv hs he, genusTo_inv hs he]

theorem loopB_inv {s : List Nat} (hs : IsPerm s) (e : Nat) : loopB (invL s) e = loopB s e := by unfold loopB; rw [namesL_inv hs]
theorem dblB_inv {s : List Nat} (hs : IsPerm s) (e : Nat) : dblB (invL s) e = dblB s e := by
  unfold dblB pairB; rw [loopB_inv hs, namesL_inv hs]
theorem loopsTo_inv {s : List Nat} (hs : IsPerm s) : ∀ e, loopsTo (invL s) e = loopsTo s e
  | 0 => rfl
  | e + 1 => by unfold loopsTo; rw [loopsTo_inv hs e, loopB_inv hs]
theorem dblsTo_inv {s : List Nat} (hs : IsPerm s) : ∀ e, dblsTo (invL s) e = dblsTo s e
  | 0 => rfl
  | e + 1 => by unfold dblsTo; rw [dblsTo_inv hs e, dblB_inv hs]
theorem dblsL_inv {s : List Nat} (hs : IsPerm s) : dblsL (invL s) = dblsL s := by unfold dblsL; rw [invL_length, dblsTo_inv hs]
theorem simpB_inv {s : List Nat} (hs : IsPerm s) : simpB (invL s) = simpB s := by unfold simpB loopsL; rw [dblsL_inv hs, invL_length, loopsTo_inv hs]

theorem triTo_iff {s : List Nat} : ∀ {n : Nat}, triTo s n = true ↔ ∀ d, d < n → at' (phiL s) (at' (phiL s) (at' (phiL s) d)) = d ∧ at' (phiL s) d ≠ d
  | 0 => by simp [triTo]
  | n + 1 => by
    show (triTo s n && (at' (phiL s) (at' (phiL s) (at' (phiL s) n)) == n && !(at' (phiL s) n == n))) = true ↔ _
    rw [Bool.and_eq_true, triTo_iff, Bool.and_eq_true, beq_iff_eq]
    constructor
    · rintro ⟨h1, h2, h3⟩ d hd
      by_cases e : d = n
      · subst e; exact ⟨h2, by simpa using h3⟩
      · exact h1 d (by omega)
    · intro h
      exact ⟨fun d hd => h d (by omega), (h n (by omega)).1, by simpa using (h n (by omega)).2⟩

theorem tri_half {s t : List Nat} (n : Nat) (hn : n % 2 = 0) (h : ∀ x, x < n → at' (phiL s) (at' (phiL t) x ^^^ 1) = x ^^^ 1 ∧ at' (phiL t) x < n) (hs : ∀ d, d < n → at' (phiL s) (at' (phiL s) (at' (phiL s) d)) = d ∧ at' (phiL s) d ≠ d) :
    ∀ d, d < n → at' (phiL t) (at' (phiL t) (at' (phiL t) d)) = d ∧ at' (phiL t) d ≠ d := fun d hd => by
  obtain ⟨e1, l1⟩ := h d hd
  obtain ⟨e2, l2⟩ := h _ l1
  obtain ⟨e3, l3⟩ := h _ l2
  have h3 := (hs _ (xor_one_lt hn l3)).1
  rw [e3, e2, e1] at h3
  refine ⟨?_, fun e => ?_⟩
  · have := congrArg (· ^^^ 1) h3
    simp only [xor_one_one] at this
    exact this.symm
  · rw [e] at e1
    exact (hs _ (xor_one_lt hn hd)).2 e1

theorem triB_inv {s : List Nat} (hs : IsPerm s) (he : s.length % 2 = 0) (l : Nat) : triB (invL s) l = triB s l := by
  have hz : (sizesL (invL s)).length = (sizesL s).length := by unfold sizesL; rw [namesL_inv hs]
  have ht : triTo (invL s) s.length = triTo s s.length := by
    rw [Bool.eq_iff_iff, triTo_iff, triTo_iff]
    constructor
    · refine tri_half (s := invL s) (t := s) s.length he fun x hx => ?_
      have hxm := xor_one_lt he hx
      rw [phiL_at hx, phiL_at (by rw [invL_length]; exact xor_one_lt he (hs.lt hxm)), xor_one_one]
      exact ⟨invL_at hs hxm, hs.lt hxm⟩
    · exact tri_half (s := s) (t := invL s) s.length he fun x hx => phi_inv hs he hx
  unfold triB
  rw [hz, partsN_inv hs he, genusL_inv hs he, simpB_inv hs, invL_length, ht]

end Go.Proofs.Ytlbhmonpfchocaa

namespace Go.Proofs.Ytlbhmonpfchocaa
set_option linter.unusedVariables false

theorem eq_at {s t : List Nat} (h : s.length = t.length) (hk : ∀ j, j < s.length → at' s j = at' t j) : s = t := by
  refine List.ext_getElem h fun i h1 h2 => ?_
  have := hk i h1
  simpa [at', h1, h2] using this

section
variable {s : List Nat} (hs : IsPerm s) (he : s.length % 2 = 0)

include he in
theorem phi_phi : phiL (phiL s) = s := by
  refine eq_at (by rw [phiL_length, phiL_length]) fun j hj => ?_
  rw [phiL_length, phiL_length] at hj
  rw [phiL_at (by rw [phiL_length]; exact hj), phiL_at (xor_one_lt he hj), xor_one_one]

include hs in
theorem inv_inv : invL (invL s) = s := by
  have hi := invL_perm hs
  refine eq_at (by rw [invL_length, invL_length]) fun j hj => ?_
  rw [invL_length, invL_length] at hj
  have h := (at_invL hi (y := j) (by rw [invL_length]; exact hj))
  rw [invL_length] at h
  refine hi.inj (by rw [invL_length]; exact h.2) (by rw [invL_length]; exact hs.lt hj) ?_
  rw [h.1, invL_at hs hj]

include hs he
theorem con_phi_sub {x y : Nat} (h : Con (phiL s) x y) : Con s x y := by
  refine Con.sub (phiL_perm hs he) (r := Con s) (by rw [phiL_length]; exact Con.per hs) (fun z hz => ?_) (fun z hz => ?_) h
  · rw [phiL_length] at hz
    rw [phiL_at hz]
    exact (Con.per hs).trans (Con.mate hs he hz) (Con.step hs (xor_one_lt he hz))
  · rw [phiL_length] at hz
    exact Con.mate hs he hz
theorem con_phi (x y : Nat) (hx : x < s.length) (hy : y < s.length) : Con (phiL s) x y ↔ Con s x y := by
  refine ⟨con_phi_sub hs he, fun h => ?_⟩
  have := con_phi_sub (phiL_perm hs he) (by rw [phiL_length]; exact he) (x := x) (y := y)
  rw [phi_phi he] at this
  exact this h
theorem partsL_phi : partsL (phiL s) = partsL s := by
  have h1 := partsL_ord (phiL_perm hs he) (by rw [phiL_length]; exact he)
  rw [phiL_length] at h1
  exact (h1.congr (con_phi hs he)).unique (partsL_ord hs he)
theorem partsN_phi : partsN (phiL s) = partsN s := by
  have h1 := partsL_ord (phiL_perm hs he) (by rw [phiL_length]; exact he)
  rw [phiL_length] at h1
  have a := (h1.congr (con_phi hs he)).cnt_eq (Nat.le_refl _)
  have b := (partsL_ord hs he).cnt_eq (Nat.le_refl _)
  unfold partsN
  rw [phiL_length]
  exact a.trans b.symm
theorem genOf_phi (k : Nat) : genOf (phiL s) (partsL (phiL s)) k = genOf s (partsL s) k := by
  unfold genOf
  rw [partsL_phi hs he, phiL_length, phi_phi he]
  congr 1
  omega
theorem genusTo_phi : ∀ k, genusTo (phiL s) k = genusTo s k
  | 0 => rfl
  | k + 1 => by unfold genusTo; rw [genusTo_phi k, genOf_phi hs he]
theorem genusL_phi : genusL (phiL s) = genusL s := by
  unfold genusL; rw [partsN_phi hs he, genusTo_phi hs he]
end
end Go.Proofs.Ytlbhmonpfchocaa

namespace Go.Proofs.Ytlbhmonpfchocaa
set_option linter.unusedVariables false

/-- by other names t -/
def relL (s t : List Nat) : List Nat := (List.range s.length).map fun j => at' t (at' s (at' (invL t) j))
theorem relL_length (s t : List Nat) : (relL s t).length = s.length := by simp [relL]
theorem relL_at {s t : List Nat} {j : Nat} (h : j < s.length) : at' (relL s t) j = at' t (at' s (at' (invL t) j)) := by simp [relL, at', h]
/-- do the names keep mates? -/
def Mates (t : List Nat) : Prop := ∀ d, d < t.length → at' t (d ^^^ 1) = at' t d ^^^ 1
section
variable {s t : List Nat} (hs : IsPerm s) (ht : IsPerm t) (hl : t.length = s.length)
include hs ht hl
theorem relL_perm : IsPerm (relL s t) := by
  refine IsPerm.of_inj (fun i hi => ?_) (fun i j hi hj e => ?_)
  · rw [relL_length] at hi ⊢
    rw [relL_at hi, ← hl]
    exact ht.lt (by rw [hl]; exact hs.lt (by rw [← hl]; exact (at_invL ht (by rw [hl]; exact hi)).2))
  · rw [relL_length] at hi hj
    have h1 := (at_invL ht (y := i) (by rw [hl]; exact hi))
    have h2 := (at_invL ht (y := j) (by rw [hl]; exact hj))
    rw [relL_at hi, relL_at hj] at e
    have e1 := ht.inj (by rw [hl]; exact hs.lt (by rw [← hl]; exact h1.2)) (by rw [hl]; exact hs.lt (by rw [← hl]; exact h2.2)) e
    have e2 := hs.inj (by rw [← hl]; exact h1.2) (by rw [← hl]; exact h2.2) e1
    rw [← h1.1, ← h2.1, e2]
end
theorem relL_to {s t : List Nat} (ht : IsPerm t) (hl : t.length = s.length) {d : Nat} (hd : d < s.length) : at' (relL s t) (at' t d) = at' t (at' s d) := by
  have hd' : d < t.length := by rw [hl]; exact hd
  rw [relL_at (by rw [← hl]; exact ht.lt hd'), invL_at ht hd']

/-- named so far -/
def relGo (s t : List Nat) (i : Nat) : List Int := (List.range s.length).map fun j => if at' (invL t) j < i then ((at' t (at' s (at' (invL t) j)) : Nat) : Int) else 0
theorem relGo_length (s t : List Nat) (i : Nat) : (relGo s t i).length = s.length := by simp [relGo]
theorem relGo_zero (s t : List Nat) : relGo s t 0 = List.replicate s.length 0 := by
  refine List.ext_getElem (by simp [relGo]) fun i h1 h2 => ?_
  simp [relGo]
theorem relGo_set {s t : List Nat} (ht : IsPerm t) (hl : t.length = s.length) {i : Nat} (hi : i < s.length) : (relGo s t i).set (at' t i) ((at' t (at' s i) : Nat) : Int) = relGo s t (i + 1) := by
  refine List.ext_getElem (by simp [relGo]) fun j h1 h2 => ?_
  have hj : j < s.length := by simp [relGo] at h2; exact h2
  rw [List.getElem_set]
  have hit : i < t.length := by rw [hl]; exact hi
  have h := at_invL ht (y := j) (by rw [hl]; exact hj)
  by_cases e1 : at' t i = j
  · subst e1
    rw [if_pos rfl]
    simp only [relGo, List.getElem_map, List.getElem_range, invL_at ht hit]
    rw [if_pos (by omega)]
  · rw [if_neg e1]
    simp only [relGo, List.getElem_map, List.getElem_range]
    by_cases h3 : at' (invL t) j < i
    · rw [if_pos h3, if_pos (by omega)]
    · have : at' (invL t) j ≠ i := fun e' => e1 (by rw [← e', h.1])
      rw [if_neg h3, if_neg (by omega)]
theorem relGo_all {s t : List Nat} (ht : IsPerm t) (hl : t.length = s.length) : relGo s t s.length = toI (relL s t) := by
  unfold relGo relL toI
  rw [List.map_map]
  refine List.map_congr_left fun j hj => ?_
  rw [if_pos (by rw [← hl]; exact (at_invL ht (by rw [hl]; exact List.mem_range.1 hj)).2)]
  rfl
theorem relRoot {s t : List Nat} {root lone : Int} (h : MapOk s root lone) (ht : IsPerm t) (hl : t.length = s.length) : MapOk (relL s t) (atI t root) lone := by
  obtain ⟨h1, h2, h3, h4, h5⟩ := h
  have hrl := relL_length s t
  refine ⟨by rw [hrl]; exact h1, by rw [hrl]; exact h2, h3, h4, ?_⟩
  rcases h5 with ⟨h5, rfl⟩ | ⟨h5, h6⟩
  · left; exact ⟨by rw [hrl]; exact h5, atI_out (Or.inl (by omega))⟩
  · right
    obtain ⟨k, rfl⟩ := Int.eq_ofNat_of_zero_le h5
    have hk : k < t.length := by omega
    rw [atI_in hk, hrl]
    have := ht.lt hk
    omega

end Go.Proofs.Ytlbhmonpfchocaa

namespace Go.Proofs.Ytlbhmonpfchocaa
open Go.RowKit
set_option linter.unusedVariables false

/-- a row that is filled so far -/
def fillL (f : Nat → Int) (n i : Nat) : List Int := (List.range n).map fun j => if j < i then f j else 0
theorem fillL_length (f : Nat → Int) (n i : Nat) : (fillL f n i).length = n := by simp [fillL]
theorem fillL_zero (f : Nat → Int) (n : Nat) : fillL f n 0 = List.replicate n 0 := by
  refine List.ext_getElem (by simp [fillL]) fun i h1 h2 => ?_
  simp [fillL]
theorem fillL_set (f : Nat → Int) {n i : Nat} (hi : i < n) : (fillL f n i).set i (f i) = fillL f n (i + 1) := by
  refine List.ext_getElem (by simp [fillL]) fun j h1 h2 => ?_
  rw [List.getElem_set]
  by_cases e : i = j
  · subst e; simp [fillL]
  · rw [if_neg e]
    simp only [fillL, List.getElem_map, List.getElem_range]
    by_cases h : j < i
    · rw [if_pos h, if_pos (by omega)]
    · rw [if_neg h, if_neg (by omega)]
theorem fillL_all (s : List Nat) : fillL (fun j => ((at' s j : Nat) : Int)) s.length s.length = toI s := by
  refine List.ext_getElem (by simp [fillL, toI]) fun j h1 h2 => ?_
  rw [fillL_length] at h1
  simp [fillL, toI, at', h1]

def RetDm (R : Reg) (w : World) (S : List Nat) (root lone : Int) (e : Ending) (w' : World) : Prop :=
  ∃ p R', e = .returned p ∧ Ev R w R' w' ∧ MapAt R' p S root lone
theorem MapOk.of_len {s t : List Nat} {root lone : Int} (h : MapOk s root lone) (e : t.length = s.length) : MapOk t root lone := by
  unfold MapOk at *; rw [e]; exact h

end Go.Proofs.Ytlbhmonpfchocaa

namespace Go.Proofs.Ytlbhmonpfchocaa
set_option linter.unusedVariables false

/-- a dart's name, and the dart of a name, behind the edge e -/
def nmL (e d : Nat) : Nat := if 2 * e < d then d - 2 else d
def unL (e j : Nat) : Nat := if j < 2 * e then j else j + 2
def passF (t : List Nat) (e : Nat) : Nat → Nat → Nat
  | 0, d => d
  | f + 1, d => if d / 2 = e then passF t e f (at' t d) else d
def passN (t : List Nat) (e d : Nat) : Nat := passF t e 2 d
def doneL (t : List Nat) (e : Nat) : List Nat := (List.range (t.length - 2)).map fun j => nmL e (passN t e (at' t (unL e j)))
def rootGo (s : List Nat) (e : Nat) : Nat → Nat → Nat
  | 0, _ => 0
  | f + 1, d => if d / 2 = e then rootGo s e f (at' (invL s) d) else nmL e d
def rootL (s : List Nat) (e root : Nat) : Int := if s.length = 2 then -1 else ((rootGo s e s.length root : Nat) : Int)

theorem doneL_length (t : List Nat) (e : Nat) : (doneL t e).length = t.length - 2 := by simp [doneL]
theorem doneL_at {t : List Nat} {e j : Nat} (hj : j < t.length - 2) : at' (doneL t e) j = nmL e (passN t e (at' t (unL e j))) := by simp [doneL, at', hj]
theorem unL_own {e j : Nat} : ¬ unL e j / 2 = e := by unfold unL; split <;> omega
theorem unL_lt {e j n : Nat} (hn : 2 * e + 2 ≤ n) (hj : j < n - 2) : unL e j < n := by unfold unL; split <;> omega
theorem unL_inj {e i j : Nat} (h : unL e i = unL e j) : i = j := by unfold unL at h; split at h <;> split at h <;> omega
theorem nm_un (e j : Nat) : nmL e (unL e j) = j := by unfold nmL unL; split <;> split <;> omega
theorem un_nm {e d : Nat} (h : ¬ d / 2 = e) : unL e (nmL e d) = d := by unfold nmL unL; split <;> split <;> omega
theorem nmL_lt {e d n : Nat} (hn : 2 * e + 2 ≤ n) (h : ¬ d / 2 = e) (hd : d < n) : nmL e d < n - 2 := by unfold nmL; split <;> omega
theorem nmL_inj {e c d : Nat} (hc : ¬ c / 2 = e) (hd : ¬ d / 2 = e) (h : nmL e c = nmL e d) : c = d := by rw [← un_nm hc, ← un_nm hd, h]

/-- the three ways of a dart that is passed on -/
theorem pass_cases (t : List Nat) (e x : Nat) : (¬ x / 2 = e ∧ passN t e x = x) ∨ (x / 2 = e ∧ ¬ at' t x / 2 = e ∧ passN t e x = at' t x) ∨ (x / 2 = e ∧ at' t x / 2 = e ∧ passN t e x = at' t (at' t x)) := by
  unfold passN
  by_cases h : x / 2 = e
  · by_cases h2 : at' t x / 2 = e
    · exact Or.inr (Or.inr ⟨h, h2, by simp [passF, h, h2]⟩)
    · exact Or.inr (Or.inl ⟨h, h2, by simp [passF, h, h2]⟩)
  · exact Or.inl ⟨h, by simp [passF, h]⟩

section
variable {t : List Nat} (ht : IsPerm t) {e : Nat}
include ht

theorem pass_ok {d : Nat} (hd : d < t.length) (ho : ¬ d / 2 = e) : ¬ passN t e (at' t d) / 2 = e ∧ passN t e (at' t d) < t.length := by
  have h1 := ht.lt hd
  have h2 := ht.lt h1
  have h3 := ht.lt h2
  rcases pass_cases t e (at' t d) with ⟨a, b⟩ | ⟨a, a2, b⟩ | ⟨a, a2, b⟩
  · rw [b]; exact ⟨a, h1⟩
  · rw [b]; exact ⟨a2, h2⟩
  · rw [b]
    refine ⟨fun a3 => ?_, h3⟩
    -- three darts of one edge: two of them are one
    by_cases e1 : at' t d = at' t (at' t d)
    · have := ht.inj hd h1 e1
      rw [this] at ho
      exact ho a
    · by_cases e2 : at' t (at' t d) = at' t (at' t (at' t d))
      · exact e1 (ht.inj h1 h2 e2)
      · have e3 : at' t d = at' t (at' t (at' t d)) := by omega
        have := ht.inj hd h2 e3
        rw [this] at ho
        exact ho a2
theorem pass_inj {c d : Nat} (hc : c < t.length) (hd : d < t.length) (oc : ¬ c / 2 = e) (od : ¬ d / 2 = e) (h : passN t e (at' t c) = passN t e (at' t d)) : c = d := by
  have c1 := ht.lt hc
  have d1 := ht.lt hd
  have c2 := ht.lt c1
  have d2 := ht.lt d1
  rcases pass_cases t e (at' t c) with ⟨a, b⟩ | ⟨a, a2, b⟩ | ⟨a, a2, b⟩ <;> rcases pass_cases t e (at' t d) with ⟨p, q⟩ | ⟨p, p2, q⟩ | ⟨p, p2, q⟩ <;> rw [b, q] at h
  · exact ht.inj hc hd h
  · exact absurd p (by rw [← ht.inj hc d1 h]; exact oc)
  · exact absurd p2 (by rw [← ht.inj hc d2 h]; exact oc)
  · exact absurd a (by rw [ht.inj c1 hd h]; exact od)
  · exact ht.inj hc hd (ht.inj c1 d1 h)
  · exact absurd p (by rw [← ht.inj hc d1 (ht.inj c1 d2 h)]; exact oc)
  · exact absurd a2 (by rw [ht.inj c2 hd h]; exact od)
  · exact absurd a (by rw [ht.inj c1 hd (ht.inj c2 d1 h)]; exact od)
  · exact ht.inj hc hd (ht.inj c1 d1 (ht.inj c2 d2 h))
theorem doneL_perm (hn : 2 * e + 2 ≤ t.length) : IsPerm (doneL t e) := by
  refine IsPerm.of_inj (fun i hi => ?_) (fun i j hi hj h => ?_)
  · rw [doneL_length] at hi ⊢
    obtain ⟨h1, h2⟩ := pass_ok ht (unL_lt hn hi) unL_own
    rw [doneL_at hi]
    exact nmL_lt hn h1 h2
  · rw [doneL_length] at hi hj
    rw [doneL_at hi, doneL_at hj] at h
    have h1 := (pass_ok ht (unL_lt hn hi) unL_own).1
    have h2 := (pass_ok ht (unL_lt hn hj) unL_own).1
    exact unL_inj (pass_inj ht (unL_lt hn hi) (unL_lt hn hj) unL_own unL_own (nmL_inj h1 h2 h))
theorem rootGo_lt (hn : 2 * e + 2 ≤ t.length) (h4 : 4 ≤ t.length) : ∀ (f : Nat) {d : Nat}, d < t.length → rootGo t e f d < t.length - 2
  | 0, d, _ => by show 0 < _; omega
  | f + 1, d, hd => by
    unfold rootGo
    by_cases h : d / 2 = e
    · rw [if_pos h]
      exact rootGo_lt hn h4 f (at_invL ht hd).2
    · rw [if_neg h]
      exact nmL_lt hn h hd
end

/-- the map that is left is one -/
theorem MapOk.less {s t : List Nat} {root lone : Int} (h : MapOk s root lone) (hs : IsPerm s) (e : t.length = s.length) {k : Nat} (hk : 2 * k + 2 ≤ s.length) {l : Int} (hl : 0 ≤ l ∧ lone + l ≤ 65536) : MapOk (doneL t k) (rootL s k root.toNat) (lone + l) := by
  obtain ⟨h1, h2, h3, h4, h5⟩ := h
  have hd := doneL_length t k
  refine ⟨by omega, by omega, by omega, hl.2, ?_⟩
  unfold rootL
  by_cases h6 : s.length = 2
  · rw [if_pos h6]; left; omega
  · rw [if_neg h6]; right
    have hr : root.toNat < s.length := by omega
    have := rootGo_lt hs hk (by omega) s.length hr
    omega

end Go.Proofs.Ytlbhmonpfchocaa

namespace Go.Proofs.Ytlbhmonpfchocaa
open Go.RowKit
set_option linter.unusedVariables false

/-- a map with an edge less, in memory -/
structure LessAt (R : Reg) (w : World) (x p : Value) (e : Nat) (L : List Nat) : Prop where
  ex : ∃ b a cap, x = .pointer (some ⟨b, 0, none⟩) ∧ R b = none ∧ w.cell? ⟨b, 0, none⟩ = some p ∧ w.cell? ⟨b, 1, none⟩ = some (.int .i64 (e : Int)) ∧ w.cell? ⟨b, 2, none⟩ = some (.slice a L.length cap) ∧ FreeI R w (.slice a L.length cap) (toI L)
theorem LessAt.ev {R R' : Reg} {w w' : World} {x p : Value} {e : Nat} {L : List Nat} (h : LessAt R w x p e L) (he : Ev R w R' w') : LessAt R' w' x p e L := by
  obtain ⟨b, a, cap, h1, hb, c0, c1, c2, hf⟩ := h.ex
  have hl := lt_of_cell c0
  exact ⟨b, a, cap, h1, he.free b hl hb, (he.cell hl hb).trans c0, (he.cell hl hb).trans c1, (he.cell hl hb).trans c2, hf.ev he⟩

section
variable {R : Reg} {w : World} {x p : Value} {e : Nat} {L : List Nat} (h : LessAt R w x p e L)
include h

end
end Go.Proofs.Ytlbhmonpfchocaa

namespace Go.Proofs.Ytlbhmonpfchocaa
open Go.RowKit
set_option linter.unusedVariables false

theorem LessAt.cells {R : Reg} {w : World} {x p : Value} {e : Nat} {L : List Nat} (h : LessAt R w x p e L) : ∃ b a cap, x = .pointer (some ⟨b, 0, none⟩) ∧ ∀ R' w', Ev R w R' w' → w'.cell? ⟨b, 0, none⟩ = some p ∧ w'.cell? ⟨b, 2, none⟩ = some (.slice a L.length cap) ∧ FreeI R' w' (.slice a L.length cap) (toI L) := by
  obtain ⟨b, a, cap, h1, hb, c0, c1, c2, hf⟩ := h.ex
  have hl := lt_of_cell c0
  exact ⟨b, a, cap, h1, fun R' w' he => ⟨(he.cell hl hb).trans c0, (he.cell hl hb).trans c2, hf.ev he⟩⟩

end Go.Proofs.Ytlbhmonpfchocaa

namespace Go.Proofs.Ytlbhmonpfchocaa
open Go.RowKit
set_option linter.unusedVariables false

/-- so far: the names of what was passed -/
def dnL (L : List Nat) (e i : Nat) : List Int := (List.range (L.length - 2)).map fun j => if unL e j < i then ((nmL e (passN L e (at' L (unL e j))) : Nat) : Int) else 0
theorem dnL_length (L : List Nat) (e i : Nat) : (dnL L e i).length = L.length - 2 := by simp [dnL]
theorem dnL_zero (L : List Nat) (e : Nat) : dnL L e 0 = List.replicate (L.length - 2) 0 := by
  refine List.ext_getElem (by simp [dnL]) fun i h1 h2 => ?_
  simp [dnL]
theorem dnL_own {L : List Nat} {e i : Nat} (h : i / 2 = e) : dnL L e (i + 1) = dnL L e i := by
  unfold dnL
  refine List.map_congr_left fun j _ => ?_
  have := unL_own (e := e) (j := j)
  by_cases h1 : unL e j < i
  · rw [if_pos h1, if_pos (by omega)]
  · have : unL e j ≠ i := fun e' => by rw [e'] at this; exact this h
    rw [if_neg h1, if_neg (by omega)]
theorem dnL_set {L : List Nat} {e i : Nat} (h : ¬ i / 2 = e) : (dnL L e i).set (nmL e i) ((nmL e (passN L e (at' L i)) : Nat) : Int) = dnL L e (i + 1) := by
  refine List.ext_getElem (by simp [dnL]) fun j h1 h2 => ?_
  rw [List.getElem_set]
  by_cases e1 : nmL e i = j
  · subst e1
    simp [dnL, un_nm h]
  · rw [if_neg e1]
    simp only [dnL, List.getElem_map, List.getElem_range]
    by_cases h3 : unL e j < i
    · rw [if_pos h3, if_pos (by omega)]
    · have : unL e j ≠ i := fun e' => e1 (by rw [← e', nm_un])
      rw [if_neg h3, if_neg (by omega)]
theorem dnL_all {L : List Nat} {e : Nat} (hn : 2 * e + 2 ≤ L.length) : dnL L e L.length = toI (doneL L e) := by
  unfold dnL doneL toI
  rw [List.map_map]
  refine List.map_congr_left fun j hj => ?_
  rw [if_pos (unL_lt hn (List.mem_range.1 hj))]
  rfl

theorem Calls.drewS {f : FuncId} {args : Array Value} {w : World} {v : Value} (h : Calls Try.prog f args w fun e w' => e = .returned v ∧ w = w') : Calls Try.prog f args w fun e w' => e = .returned v ∧ w' = w := h.mono fun _ _ h => ⟨h.1, h.2.symm⟩

end Go.Proofs.Ytlbhmonpfchocaa

namespace Go.Proofs.Ytlbhmonpfchocaa
open Go.RowKit
set_option linter.unusedVariables false

def ownB (e : Nat) (xs : List Nat) : Bool := xs.all fun y => decide (y / 2 = e)
/-- has a vertex no other dart than the edge's? -/
def bareB (s : List Nat) (e d : Nat) : Bool := ownB e (orbitL s d)
theorem ownB_true {e : Nat} {xs : List Nat} (h : ∀ i, i < xs.length → at' xs i / 2 = e) : ownB e xs = true := by
  unfold ownB
  rw [List.all_eq_true]
  intro y hy
  obtain ⟨i, hi, rfl⟩ := List.getElem_of_mem hy
  have := h i hi
  simp [at', hi] at this
  simp [this]
theorem ownB_false {e : Nat} {xs : List Nat} {i : Nat} (hi : i < xs.length) (h : ¬ at' xs i / 2 = e) : ownB e xs = false := by
  unfold ownB
  rw [List.all_eq_false]
  refine ⟨xs[i], List.getElem_mem hi, ?_⟩
  simp [at', hi] at h
  simp [h]

/-- the same, the list one's own -/
structure LessOwn (R : Reg) (B : Nat) (w : World) (b : Nat) (a : Option Addr) (cap : Nat) (p : Value) (e : Nat) (L : List Nat) : Prop where
  nb : R b = none
  c0 : w.cell? ⟨b, 0, none⟩ = some p
  c1 : w.cell? ⟨b, 1, none⟩ = some (.int .i64 (e : Int))
  c2 : w.cell? ⟨b, 2, none⟩ = some (.slice a L.length cap)
  own : OwnI R B 3 w (.slice a L.length cap) (toI L)
  ds : ∀ k, (Value.slice a L.length cap).ownBlock = some k → k ≠ b
theorem LessOwn.ev {R R' : Reg} {B b : Nat} {w w' : World} {a : Option Addr} {cap : Nat} {p : Value} {e : Nat} {L : List Nat} (h : LessOwn R B w b a cap p e L) (he : Ev R w R' w') : LessOwn R' B w' b a cap p e L :=
  have hl := lt_of_cell h.c0
  ⟨he.free b hl h.nb, (he.cell hl h.nb).trans h.c0, (he.cell hl h.nb).trans h.c1, (he.cell hl h.nb).trans h.c2, h.own.ev he, h.ds⟩
theorem LessOwn.at {R : Reg} {B b : Nat} {w : World} {a : Option Addr} {cap : Nat} {p : Value} {e : Nat} {L : List Nat} (h : LessOwn R B w b a cap p e L) : LessAt R w (.pointer (some ⟨b, 0, none⟩)) p e L :=
  ⟨⟨b, a, cap, rfl, h.nb, h.c0, h.c1, h.c2, h.own.free⟩⟩
theorem LessOwn.cells {R : Reg} {B b : Nat} {w : World} {a : Option Addr} {cap : Nat} {p : Value} {e : Nat} {L : List Nat} (h : LessOwn R B w b a cap p e L) {i : Nat} (hi : i < L.length) :
    ∃ g, a = some ⟨g, 0, none⟩ ∧ g ≠ b ∧ B ≤ g ∧ R g = none ∧ w.cell? ⟨g, i, none⟩ = some (.int .i64 ((at' L i : Nat) : Int)) ∧ w.frozen? ⟨g, i, none⟩ = false := by
  obtain ⟨g, e, hB, hR, h1, h2⟩ := h.own.headAt (toI_length L) hi
  rw [toI_nth] at h1
  subst e
  exact ⟨g, rfl, h.ds g rfl, hB, hR, h1, h2⟩
theorem LessOwn.put {R : Reg} {B b g : Nat} {w : World} {cap : Nat} {p : Value} {e : Nat} {L : List Nat} (h : LessOwn R B w b (some ⟨g, 0, none⟩) cap p e L) {i : Nat} (hi : i < L.length) (y : Nat) : LessOwn R B (w.setCell ⟨g, i, none⟩ (.int .i64 ((y : Nat) : Int))) b (some ⟨g, 0, none⟩) cap p e (L.set i y) := by
  have hgb : g ≠ b := h.ds g rfl
  have e1 : toI (L.set i y) = (toI L).set i ((y : Nat) : Int) := by simp [toI, List.map_set]
  refine ⟨h.nb, ?_, ?_, ?_, ?_, ?_⟩
  · rw [World.cell?_setCell_other _ _ _ _ (by intro e; first | exact hgb (congrArg Addr.block e) | exact hgb (congrArg Addr.block e).symm)]; exact h.c0
  · rw [World.cell?_setCell_other _ _ _ _ (by intro e; first | exact hgb (congrArg Addr.block e) | exact hgb (congrArg Addr.block e).symm)]; exact h.c1
  · rw [World.cell?_setCell_other _ _ _ _ (by intro e; first | exact hgb (congrArg Addr.block e) | exact hgb (congrArg Addr.block e).symm), List.length_set]; exact h.c2
  · rw [e1, List.length_set]
    exact h.own.put (toI_length L) i hi _
  · rw [List.length_set]; exact h.ds

/-- an edge: is it there? -/
def LessYes (R : Reg) (w : World) (p : Value) (e : Nat) (s : List Nat) (z : Ending) (w' : World) : Prop :=
  ∃ b a cap, z = .returned (.tuple #[.pointer (some ⟨b, 0, none⟩), .int .i64 0]) ∧ Ev R w R w' ∧ LessOwn R w.heap.size w' b a cap p e s

end Go.Proofs.Ytlbhmonpfchocaa

namespace Go.Proofs.Ytlbhmonpfchocaa
open Go.RowKit
set_option linter.unusedVariables false

/-- where one dart stood the other vertex's come -/
def exL (s : List Nat) (e : Nat) : List Nat := (s.set (2 * e) (at' s (2 * e + 1))).set (2 * e + 1) (at' s (2 * e))
theorem exL_length (s : List Nat) (e : Nat) : (exL s e).length = s.length := by simp [exL]
def exI (e i : Nat) : Nat := if i = 2 * e + 1 then 2 * e else if i = 2 * e then 2 * e + 1 else i
theorem exI_lt {e i n : Nat} (hn : 2 * e + 2 ≤ n) (hi : i < n) : exI e i < n := by unfold exI; split <;> (try split) <;> omega
theorem exI_inj {e i j : Nat} (h : exI e i = exI e j) : i = j := by
  unfold exI at h
  repeat' split at h
  all_goals omega
theorem exL_at {s : List Nat} {e i : Nat} (hi : i < s.length) : at' (exL s e) i = at' s (exI e i) := by
  unfold exL at' exI
  simp only [List.getD_eq_getElem?_getD, List.getElem?_set, List.length_set]
  by_cases h1 : i = 2 * e + 1
  · subst h1; simp [hi]
  · rw [if_neg (fun h => h1 h.symm), if_neg h1]
    by_cases h2 : i = 2 * e
    · subst h2; simp [hi]
    · rw [if_neg (fun h => h2 h.symm), if_neg h2]
theorem exL_perm {s : List Nat} (hs : IsPerm s) {e : Nat} (hn : 2 * e + 2 ≤ s.length) : IsPerm (exL s e) := by
  refine IsPerm.of_inj (fun i hi => ?_) (fun i j hi hj h => ?_)
  · rw [exL_length] at hi ⊢
    rw [exL_at hi]
    exact hs.lt (exI_lt hn hi)
  · rw [exL_length] at hi hj
    rw [exL_at hi, exL_at hj] at h
    exact exI_inj (hs.inj (exI_lt hn hi) (exI_lt hn hj) h)

/-- how many vertices are left bare -/
def oneIf (b : Bool) : Int := if b = true then 1 else 0
def cutLone (s : List Nat) (e : Nat) : Int := oneIf (bareB s e (2 * e)) + oneIf (!decide (nth (namesL s) (2 * e) = nth (namesL s) (2 * e + 1)) && bareB s e (2 * e + 1))
def shrLone (s : List Nat) (e : Nat) : Int := oneIf (bareB s e (2 * e) && bareB s e (2 * e + 1))
theorem oneIf_le (b : Bool) : 0 ≤ oneIf b ∧ oneIf b ≤ 1 := by cases b <;> simp [oneIf]
theorem cutLone_le (s : List Nat) (e : Nat) : 0 ≤ cutLone s e ∧ cutLone s e ≤ 2 := by
  unfold cutLone
  have h1 := oneIf_le (bareB s e (2 * e))
  have h2 := oneIf_le (!decide (nth (namesL s) (2 * e) = nth (namesL s) (2 * e + 1)) && bareB s e (2 * e + 1))
  omega
theorem shrLone_le (s : List Nat) (e : Nat) : 0 ≤ shrLone s e ∧ shrLone s e ≤ 1 := oneIf_le _

end Go.Proofs.Ytlbhmonpfchocaa

namespace Go.Proofs.Ytlbhmonpfchocaa
set_option linter.unusedVariables false

theorem unL_mate (e j : Nat) : unL e (j ^^^ 1) = unL e j ^^^ 1 := by
  rw [xor_one j, xor_one (unL e j)]
  unfold unL
  repeat' split
  all_goals omega
theorem mate_own {d e : Nat} : (d ^^^ 1) / 2 = e ↔ d / 2 = e := by
  have h := xor_one d
  rw [h]
  split <;> omega
theorem exI_own {e i : Nat} (h : i / 2 = e) : exI e i = i ^^^ 1 := by
  rw [xor_one]; unfold exI
  repeat' split
  all_goals omega
theorem exI_else {e i : Nat} (h : ¬ i / 2 = e) : exI e i = i := by
  unfold exI; split <;> (try split) <;> omega

/-- passing asks for the edge's own darts alone -/
theorem pass_same {t u : List Nat} {e : Nat} (h : ∀ d, d / 2 = e → at' t d = at' u d) (x : Nat) : passN t e x = passN u e x := by
  have key : ∀ f x, passF t e f x = passF u e f x := fun f => by
    induction f with
    | zero => intro x; rfl
    | succ f ih =>
      intro x
      unfold passF
      by_cases hx : x / 2 = e
      · rw [if_pos hx, if_pos hx, h x hx, ih]
      · rw [if_neg hx, if_neg hx]
  exact key 2 x

theorem turn_shrink {s : List Nat} (hs : IsPerm s) (he : s.length % 2 = 0) {e : Nat} (hn : 2 * e + 2 ≤ s.length) : phiL (doneL (exL s e) e) = doneL (phiL s) e := by
  have hl : (doneL (exL s e) e).length = s.length - 2 := by rw [doneL_length, exL_length]
  refine eq_at (by rw [phiL_length, hl, doneL_length, phiL_length]) fun j hj => ?_
  rw [phiL_length, hl] at hj
  have hjm : (j ^^^ 1) < s.length - 2 := xor_one_lt (by omega) hj
  have hd : unL e j < s.length := unL_lt hn hj
  have hdm : (unL e j ^^^ 1) < s.length := xor_one_lt he hd
  rw [phiL_at (by rw [hl]; exact hj), doneL_at (by rw [exL_length]; exact hjm), doneL_at (by rw [phiL_length]; exact hj), unL_mate, phiL_at hd, exL_at hdm, exI_else (fun h => unL_own (mate_own.1 h))]
  congr 1
  refine pass_same (fun d hd => ?_) _
  have hdl : d < s.length := by omega
  rw [exL_at hdl, exI_own hd, phiL_at hdl]

end Go.Proofs.Ytlbhmonpfchocaa

namespace Go.Proofs.Ytlbhmonpfchocaa
set_option linter.unusedVariables false

/-- the first dart behind d that is none of Q's -/
inductive Way (s : List Nat) (Q : Nat → Prop) : Nat → Nat → Prop
  | one {d : Nat} : ¬ Q (at' s d) → Way s Q d (at' s d)
  | more {d y : Nat} : Q (at' s d) → Way s Q (at' s d) y → Way s Q d y
theorem Way.not {s : List Nat} {Q : Nat → Prop} {d y : Nat} (h : Way s Q d y) : ¬ Q y := by
  induction h with
  | one h => exact h
  | more _ _ ih => exact ih
theorem Way.same {s : List Nat} {Q : Nat → Prop} {d y z : Nat} (h : Way s Q d y) : Way s Q d z → y = z := by
  induction h with
  | one h => intro k; cases k with
    | one _ => rfl
    | more k _ => exact absurd k h
  | more h _ ih => intro k; cases k with
    | one k => exact absurd h k
    | more _ k => exact ih k
theorem Way.congr {s : List Nat} {Q Q' : Nat → Prop} (hq : ∀ x, Q x ↔ Q' x) {d y : Nat} (h : Way s Q d y) : Way s Q' d y := by
  induction h with
  | one h => exact .one fun k => h ((hq _).2 k)
  | more h _ ih => exact .more ((hq _).1 h) ih
/-- more is passed by -/
theorem Way.stop {s : List Nat} {Q P : Nat → Prop} {d y : Nat} (h : Way s Q d y) (hp : ¬ P y) : Way s (fun x => Q x ∨ P x) d y := by
  induction h with
  | one h => exact .one fun k => k.elim h hp
  | more h _ ih => exact .more (Or.inl h) (ih hp)
theorem Way.go {s : List Nat} {Q P : Nat → Prop} {d y z : Nat} (h : Way s Q d y) (hp : P y) (k : Way s (fun x => Q x ∨ P x) y z) : Way s (fun x => Q x ∨ P x) d z := by
  induction h with
  | one h => exact .more (Or.inr hp) k
  | more h _ ih => exact .more (Or.inl h) (ih hp k)
theorem Way.it {s : List Nat} {Q : Nat → Prop} {d y : Nat} (h : Way s Q d y) : ∃ m, itf (at' s) (m + 1) d = y ∧ ∀ j, 1 ≤ j → j ≤ m → Q (itf (at' s) j d) := by
  induction h with
  | one h => exact ⟨0, rfl, fun j h1 h2 => by omega⟩
  | more h _ ih =>
    obtain ⟨m, e, hq⟩ := ih
    refine ⟨m + 1, e, fun j h1 h2 => ?_⟩
    cases j with
    | zero => omega
    | succ j =>
      cases j with
      | zero => exact h
      | succ j => exact hq (j + 1) (by omega) (by omega)

section
variable {s : List Nat} (hs : IsPerm s)
include hs
theorem pass_way {e d : Nat} (hd : d < s.length) (ho : ¬ d / 2 = e) : Way s (fun x => x / 2 = e) d (passN s e (at' s d)) := by
  have hp := (pass_ok hs hd ho).1
  rcases pass_cases s e (at' s d) with ⟨a, b⟩ | ⟨a, a2, b⟩ | ⟨a, a2, b⟩
  · rw [b]; exact .one a
  · rw [b]; exact .more a (.one a2)
  · rw [b] at hp ⊢; exact .more a (.more a2 (.one hp))
theorem done_way {e j : Nat} (hn : 2 * e + 2 ≤ s.length) (hj : j < s.length - 2) : Way s (fun x => x / 2 = e) (unL e j) (unL e (at' (doneL s e) j)) := by
  rw [doneL_at hj, un_nm (pass_ok hs (unL_lt hn hj) unL_own).1]
  exact pass_way hs (unL_lt hn hj) unL_own
/-- a way in the map with an edge less is one in the map -/
theorem way_done {k : Nat} (hn : 2 * k + 2 ≤ s.length) {P P' : Nat → Prop} (hP : ∀ x, x < s.length - 2 → (P x ↔ P' (unL k x))) {j z : Nat} (hj : j < s.length - 2) (h : Way (doneL s k) P j z) : Way s (fun x => x / 2 = k ∨ P' x) (unL k j) (unL k z) ∧ z < s.length - 2 := by
  have hp := doneL_perm hs hn
  induction h with
  | @one d h =>
    have hl := hp.lt (i := d) (by rw [doneL_length]; exact hj)
    rw [doneL_length] at hl
    exact ⟨(done_way hs hn hj).stop fun k => h ((hP _ hl).2 k), hl⟩
  | @more d y h _ ih =>
    have hl := hp.lt (i := d) (by rw [doneL_length]; exact hj)
    rw [doneL_length] at hl
    obtain ⟨h1, h2⟩ := ih hl
    exact ⟨(done_way hs hn hj).go ((hP _ hl).1 h) h1, h2⟩

/-- of two edges it doesn't matter which is cut first -/
theorem cut_cut {i k : Nat} (hik : i < k) (hn : 2 * k + 2 ≤ s.length) : doneL (doneL s k) i = doneL (doneL s i) (k - 1) := by
  have hpk := doneL_perm hs hn
  have hpi := doneL_perm hs (e := i) (by omega)
  have hlk := doneL_length s k
  have hli := doneL_length s i
  have hun : ∀ j, unL k (unL i j) = unL i (unL (k - 1) j) := fun j => by
    unfold unL; repeat' split
    all_goals omega
  refine eq_at (by simp only [doneL_length]) fun j hj => ?_
  rw [doneL_length, hlk] at hj
  have w1 := done_way hpk (e := i) (j := j) (by omega) (by omega)
  have w2 := done_way hpi (e := k - 1) (j := j) (by omega) (by omega)
  have h1 := way_done hs hn (P := fun x => x / 2 = i) (P' := fun x => x / 2 = i) (fun x _ => by unfold unL; split <;> omega) (unL_lt (n := s.length - 2) (by omega) (by omega)) w1
  have h2 := way_done hs (k := i) (by omega) (P := fun x => x / 2 = k - 1) (P' := fun x => x / 2 = k) (fun x _ => by unfold unL; split <;> omega) (unL_lt (n := s.length - 2) (by omega) (by omega)) w2
  rw [hun, hun] at h1
  have h3 := h1.1.congr (Q' := fun x => x / 2 = i ∨ x / 2 = k) fun x => Or.comm
  exact unL_inj (unL_inj (h3.same h2.1))
end
end Go.Proofs.Ytlbhmonpfchocaa
