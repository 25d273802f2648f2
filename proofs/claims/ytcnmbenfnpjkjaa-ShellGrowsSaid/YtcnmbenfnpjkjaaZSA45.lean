/- A triangulation has three darts a face: its edges are three a vertex, less six. Conditions: none. The edges of a triangulation, by the later of their two vertices in the shelling order. Conditions: none. The shelling order of a triangulation: around each vertex those ahead stand in one run. Conditions: none. The edges of a triangulation, by the later of their two vertices: what ShellCounts asks. Conditions: none. The faces of a triangulation, by the latest of their three vertices: what ShellGrows asks. Conditions: none. Rows that tell each vertex's place in an order, and how many edges each brings. Conditions: none. -/
import Derived.Test.YtcnmbenfnpjkjaaZSA39
namespace Go.Proofs.Ytcnmbenfnpjkjaa
set_option linter.unusedVariables false
set_option linter.unusedSectionVars false

theorem tally_perm {n : Nat} {f : Nat → Nat} (h : Pm n f) (p : Nat → Prop) : tally (fun x => p (f x)) n = tally p n := by
  refine Nat.le_antisymm (tally_inj f (fun x hx q => ⟨h.lt hx, q⟩) (fun x y hx hy _ _ e => h.inj hx hy e)) ?_
  classical
  have hp : ∀ x, x < n → ∃ a, a < n ∧ f a = x := fun x hx => h.pre hx
  refine tally_inj (fun x => if q : x < n then Classical.choose (hp x q) else 0) (fun x hx q => ?_) (fun x y hx hy _ _ e => ?_)
  · simp only [dif_pos hx]
    obtain ⟨k1, k2⟩ := Classical.choose_spec (hp x hx)
    exact ⟨k1, by rw [k2]; exact q⟩
  · simp only [dif_pos hx, dif_pos hy] at e
    rw [← (Classical.choose_spec (hp x hx)).2, ← (Classical.choose_spec (hp y hy)).2, e]

section
variable {s : List Nat} (h : TriS s)
include h
theorem TriS.faces3 : s.length = 3 * (sizesL (phiL s)).length := by
  have hp := phiL_perm h.perm h.even
  have hl := phiL_length s
  have hP : Pm s.length (at' (phiL s)) := by have t := hp.pm; rwa [hl] at t
  have e1 : (sizesL (phiL s)).length = tally (Least (cyc s.length (at' (phiL s)))) s.length := by
    rw [← (phi_ord h.perm h.even).cnt_eq (Nat.le_refl _)]
    have t := sizesGo_length hp _ (Nat.le_refl _)
    rw [sizesGo_all, hl] at t
    exact t
  obtain ⟨φ, hφ⟩ : ∃ φ, at' (phiL s) = φ := ⟨_, rfl⟩
  rw [hφ] at hP e1
  have h3 : ∀ x, x < s.length → φ (φ (φ x)) = x ∧ φ x ≠ x := fun x hx => by rw [← hφ]; exact h.three x hx
  obtain ⟨Lf, hL⟩ : ∃ Lf, Least (cyc s.length φ) = Lf := ⟨_, rfl⟩
  rw [hL] at e1
  have same : ∀ x y, x < s.length → y < s.length → cyc s.length φ x y → Lf x → Lf y → x = y := fun x y hx hy hc q1 q2 => by
    rw [← hL] at q1 q2; exact hP.per.least_one q1 q2 hc
  have c1 : ∀ x, x < s.length → cyc s.length φ x (φ x) := fun x hx => hP.step hx
  have lt1 : ∀ x, x < s.length → φ x < s.length := fun x hx => hP.lt hx
  have n2 : ∀ x, x < s.length → φ (φ x) ≠ x := fun x hx e => (h3 x hx).2 (by have := (h3 x hx).1; rw [e] at this; exact this)
  have some : ∀ x, x < s.length → Lf x ∨ Lf (φ x) ∨ Lf (φ (φ x)) := fun x hx => by
    obtain ⟨l, _, hc, hl⟩ := hP.per.least x hx
    rw [hL] at hl
    obtain ⟨_, _, j, ej⟩ := hP.per.symm hc
    have : ∀ j, itf φ j x = x ∨ itf φ j x = φ x ∨ itf φ j x = φ (φ x) := fun j => by
      induction j with
      | zero => exact .inl rfl
      | succ j ih =>
        rw [itf_succ]
        rcases ih with e | e | e <;> rw [e]
        · exact .inr (.inl rfl)
        · exact .inr (.inr rfl)
        · exact .inl (h3 x hx).1
    rcases this j with e | e | e
    · exact .inl (by rw [← e, ej]; exact hl)
    · exact .inr (.inl (by rw [← e, ej]; exact hl))
    · exact .inr (.inr (by rw [← e, ej]; exact hl))
  have t0 : tally Any s.length = s.length := tally_all fun _ _ => trivial
  have t1 := tally_split Any Lf s.length
  have t2 := tally_split (fun x => Any x ∧ ¬ Lf x) (fun x => Lf (φ x)) s.length
  have a1 : tally (fun x => Any x ∧ Lf x) s.length = tally Lf s.length := tally_congr fun _ _ => ⟨fun q => q.2, fun q => ⟨trivial, q⟩⟩
  have a2 : tally (fun x => (Any x ∧ ¬ Lf x) ∧ Lf (φ x)) s.length = tally (fun x => Lf (φ x)) s.length := tally_congr fun x hx => ⟨fun q => q.2, fun q => ⟨⟨trivial, fun q2 => (h3 x hx).2 (same _ _ (lt1 x hx) hx (hP.per.symm (c1 x hx)) q q2)⟩, q⟩⟩
  have a3 : tally (fun x => (Any x ∧ ¬ Lf x) ∧ ¬ Lf (φ x)) s.length = tally (fun x => Lf (φ (φ x))) s.length := tally_congr fun x hx => by
    have hx1 := lt1 x hx
    have hx2 := lt1 _ hx1
    constructor
    · rintro ⟨⟨_, q1⟩, q2⟩
      rcases some x hx with q | q | q
      · exact absurd q q1
      · exact absurd q q2
      · exact q
    · intro q
      refine ⟨⟨trivial, fun q2 => n2 x hx (same _ _ hx2 hx (hP.per.symm (hP.per.trans (c1 x hx) (c1 _ hx1))) q q2)⟩, fun q2 => (h3 _ hx1).2 (same _ _ hx2 hx1 (hP.per.symm (c1 _ hx1)) q q2)⟩
  rw [tally_perm hP] at a2
  have a4 : tally (fun x => Lf (φ (φ x))) s.length = tally Lf s.length := by
    rw [show (fun x => Lf (φ (φ x))) = fun x => (fun y => Lf (φ y)) (φ x) from rfl, tally_perm hP (fun y => Lf (φ y)), tally_perm hP]
  omega
/-- by Euler -/
theorem TriS.edges6 : s.length / 2 + 6 = 3 * (sizesL s).length := by
  have e1 := h.faces3
  have e2 := euler_plane h.perm h.even h.parts h.genus
  have e3 := h.even
  omega
end
end Go.Proofs.Ytcnmbenfnpjkjaa

namespace Go.Proofs.Ytcnmbenfnpjkjaa
set_option linter.unusedVariables false
set_option linter.unusedSectionVars false

section
variable {s : List Nat} (h : TriS s) {r : Nat} (hr : r < s.length) {pl : Int → Nat} (hp : Place (orderL s r) pl)
include h hr hp
theorem place_of {x : Nat} (hx : x < s.length) : pl (nth (namesL s) x) < (sizesL s).length ∧ nth (orderL s r) (pl (nth (namesL s) x)) = nth (namesL s) x := by
  obtain ⟨i, hi, e⟩ := mem_nth ((order_mem h hr _).2 (h.name hx))
  have := hp i hi
  rw [e] at this
  rw [this, ← order_len h hr]
  exact ⟨hi, e⟩
theorem place_inj {x y : Nat} (hx : x < s.length) (hy : y < s.length) (e : pl (nth (namesL s) x) = pl (nth (namesL s) y)) : nth (namesL s) x = nth (namesL s) y := by
  rw [← (place_of h hr hp hx).2, ← (place_of h hr hp hy).2, e]
/-- the later one -/
def lateN (s : List Nat) (pl : Int → Nat) (e : Nat) : Nat := max (pl (nth (namesL s) (2 * e))) (pl (nth (namesL s) (2 * e + 1)))
theorem late_lt {e : Nat} (he : 2 * e < s.length) : lateN s pl e < (sizesL s).length := by
  have hev := h.even
  have k1 := (place_of h hr hp he).1
  have k2 := (place_of h hr hp (x := 2 * e + 1) (by omega)).1
  unfold lateN
  omega
theorem late_down {i : Nat} (hi : i < (sizesL s).length) : tally (fun e => lateN s pl e = i) (s.length / 2) = downN s pl (nth (orderL s r) i) := by
  have hev := h.even
  have hpi : pl (nth (orderL s r) i) = i := hp i (by rw [order_len h hr]; exact hi)
  have mate : ∀ e, (2 * e) ^^^ 1 = 2 * e + 1 := xor_even
  have mate2 : ∀ e, (2 * e + 1) ^^^ 1 = 2 * e := xor_odd
  have diff : ∀ x, x < s.length → pl (nth (namesL s) x) ≠ pl (nth (namesL s) (x ^^^ 1)) := fun x hx e => h.loop x hx (place_inj h hr hp hx (xor_one_lt h.even hx) e)
  unfold downN
  rw [hpi]
  refine Nat.le_antisymm (tally_inj (fun e => if pl (nth (namesL s) (2 * e)) = i then 2 * e else 2 * e + 1) (fun e he q => ?_) (fun e f he hf _ _ q => ?_)) (tally_inj (fun x => x / 2) (fun x hx q => ?_) (fun x y hx hy qx qy e => ?_))
  · have h0 : 2 * e < s.length := by omega
    have h1 : 2 * e + 1 < s.length := by omega
    have hd := diff _ h0
    rw [mate] at hd
    unfold lateN at q
    by_cases t : pl (nth (namesL s) (2 * e)) = i
    · simp only [if_pos t]
      exact ⟨h0, by rw [← (place_of h hr hp h0).2, t], by rw [mate]; omega⟩
    · simp only [if_neg t]
      have t2 : pl (nth (namesL s) (2 * e + 1)) = i := by omega
      exact ⟨h1, by rw [← (place_of h hr hp h1).2, t2], by rw [mate2]; omega⟩
  · have : ∀ e, (if pl (nth (namesL s) (2 * e)) = i then 2 * e else 2 * e + 1) / 2 = e := fun e => by split <;> omega
    have t := congrArg (· / 2) q
    simp only [this] at t
    exact t
  · have hxe : x = 2 * (x / 2) ∨ x = 2 * (x / 2) + 1 := by omega
    have px : pl (nth (namesL s) x) = i := by rw [q.1, hpi]
    refine ⟨by omega, ?_⟩
    unfold lateN
    rcases hxe with e | e
    · have e2 : x ^^^ 1 = 2 * (x / 2) + 1 := by rw [← mate, ← e]
      have q2 := q.2
      rw [e2] at q2
      have px' : pl (nth (namesL s) (2 * (x / 2))) = i := by rw [← e]; exact px
      omega
    · have e2 : x ^^^ 1 = 2 * (x / 2) := by rw [← mate2, ← e]
      have q2 := q.2
      rw [e2] at q2
      have px' : pl (nth (namesL s) (2 * (x / 2) + 1)) = i := by rw [← e]; exact px
      omega
  · refine Classical.byContradiction fun t => ?_
    have e : x / 2 = y / 2 := e
    have hm : y = x ^^^ 1 := by
      rcases Nat.mod_two_eq_zero_or_one x with z | z
      · have : x = 2 * (x / 2) := by omega
        rw [this, mate]
        omega
      · have : x = 2 * (x / 2) + 1 := by omega
        rw [this, mate2]
        omega
    exact h.loop x hx (by rw [qx.1, ← hm, qy.1])
end
end Go.Proofs.Ytcnmbenfnpjkjaa

namespace Go.Proofs.Ytcnmbenfnpjkjaa
set_option linter.unusedVariables false
set_option linter.unusedSectionVars false

def sumQ (f : Nat → Nat) : Nat → Nat
  | 0 => 0
  | k + 1 => sumQ f k + f k
theorem sumQ_congr {f g : Nat → Nat} : ∀ {n : Nat}, (∀ k, k < n → f k = g k) → sumQ f n = sumQ g n
  | 0, _ => rfl
  | n + 1, h => by show sumQ f n + f n = sumQ g n + g n; rw [sumQ_congr fun k hk => h k (by omega), h n (by omega)]
theorem sumQ_zero {f : Nat → Nat} : ∀ {n : Nat}, (∀ k, k < n → f k = 0) → sumQ f n = 0
  | 0, _ => rfl
  | n + 1, h => by show sumQ f n + f n = 0; rw [sumQ_zero fun k hk => h k (by omega), h n (by omega)]
theorem sumQ_add (f g : Nat → Nat) : ∀ n, sumQ (fun k => f k + g k) n = sumQ f n + sumQ g n
  | 0 => rfl
  | n + 1 => by show sumQ (fun k => f k + g k) n + (f n + g n) = (sumQ f n + f n) + (sumQ g n + g n); rw [sumQ_add f g n]; omega
theorem sumQ_ind {a : Nat} : ∀ {n : Nat}, sumQ (fun k => ind (a = k)) n = ind (a < n)
  | 0 => by rw [ind_no (by omega)]; rfl
  | n + 1 => by
    show sumQ (fun k => ind (a = k)) n + ind (a = n) = _
    rw [sumQ_ind]
    by_cases h : a < n
    · rw [ind_yes h, ind_no (by omega), ind_yes (show a < n + 1 by omega)]
    · by_cases e : a = n
      · rw [ind_no h, ind_yes e, ind_yes (show a < n + 1 by omega)]
      · rw [ind_no h, ind_no e, ind_no (show ¬ a < n + 1 by omega)]
/-- those below k, by where they stand -/
theorem sumQ_tally (f : Nat → Nat) (p : Nat → Prop) (k : Nat) : ∀ n, sumQ (fun i => tally (fun e => p e ∧ f e = i) n) k = tally (fun e => p e ∧ f e < k) n
  | 0 => sumQ_zero fun _ _ => rfl
  | n + 1 => by
    have e : (fun i => tally (fun e => p e ∧ f e = i) (n + 1)) = fun i => tally (fun e => p e ∧ f e = i) n + ind (p n ∧ f n = i) := rfl
    rw [e, sumQ_add, sumQ_tally f p k n, tally_succ]
    congr 1
    by_cases hp : p n
    · rw [sumQ_congr (g := fun i => ind (f n = i)) fun i _ => ind_congr ⟨fun q => q.2, fun q => ⟨hp, q⟩⟩, sumQ_ind]
      exact ind_congr ⟨fun q => ⟨hp, q⟩, fun q => q.2⟩
    · rw [sumQ_zero fun i _ => ind_no fun q => hp q.1, ind_no fun q => hp q.1]

theorem ordGo_pre (s : List Nat) (c : Nat) : ∀ f A out, ∃ t, ordGo s c f A out = out ++ t
  | 0, _, out => ⟨[], by simp [ordGo]⟩
  | f + 1, A, out => by
    unfold ordGo
    split
    · exact ⟨[], by simp⟩
    · obtain ⟨t, e⟩ := ordGo_pre s c f (cutA s A (firstI s c A)) (out ++ [nth (namesL s) (A.getD (firstI s c A) 0)])
      exact ⟨_, by rw [e, List.append_assoc]⟩

section
variable {s : List Nat} (h : TriS s) {r : Nat} (hr : r < s.length)
include h hr
/-- the third corner is the last -/
theorem order_last : nth (orderL s r) ((sizesL s).length - 1) = nth (namesL s) (at' (phiL s) (at' (phiL s) r)) := by
  have hS := ShRun.start h hr
  obtain ⟨hf, _⟩ := hS.first h hr (by show 2 ≤ 2; omega)
  have f1 : firstI s (r ^^^ 1) (begA s r) = 1 := by
    have a := hf.1
    have b : firstI s (r ^^^ 1) (begA s r) < 2 := hf.2.1
    omega
  have hn := begA_names h hr
  simp only [begA, List.cons_append, List.nil_append, List.map_cons, List.map_nil, List.cons.injEq, and_true] at hn
  obtain ⟨g, hg⟩ : ∃ g, s.length = g + 1 := ⟨s.length - 1, by omega⟩
  obtain ⟨t, ht⟩ := ordGo_pre s (r ^^^ 1) g (cutA s (begA s r) 1) ([] ++ [nth (namesL s) ((begA s r).getD 1 0)])
  have e : orderL s r = nth (namesL s) r :: nth (namesL s) (at' (phiL s) r) :: (nth (namesL s) (at' (phiL s) (at' (phiL s) r)) :: t).reverse := by
    unfold orderL
    rw [hg]
    unfold ordGo
    rw [if_neg (by show ¬ 2 < 2; omega), f1, ht]
    have : (begA s r).getD 1 0 = at' (phiL s) r ^^^ 1 := rfl
    rw [this, hn.2.1]
    rfl
  have hl := order_len h hr
  rw [← hl, e]
  have : nth (namesL s) r :: nth (namesL s) (at' (phiL s) r) :: (nth (namesL s) (at' (phiL s) (at' (phiL s) r)) :: t).reverse = (nth (namesL s) r :: nth (namesL s) (at' (phiL s) r) :: t.reverse) ++ [nth (namesL s) (at' (phiL s) (at' (phiL s) r))] := by simp
  rw [this]
  unfold nth
  rw [List.getD_eq_getElem?_getD, List.getElem?_append_right (by simp)]
  simp
variable {pl : Int → Nat} (hp : Place (orderL s r) pl)
include hp
theorem plc {i : Nat} (hi : i < (sizesL s).length) : pl (nth (orderL s r) i) = i := hp i (by rw [order_len h hr]; exact hi)
theorem plc_first : pl (nth (namesL s) r) = 0 := plc h hr hp (i := 0) (by have := h.big; omega)
theorem plc_second : pl (nth (namesL s) (at' (phiL s) r)) = 1 := plc h hr hp (i := 1) (by have := h.big; omega)
theorem plc_last : pl (nth (namesL s) (at' (phiL s) (at' (phiL s) r))) = (sizesL s).length - 1 := by
  rw [← order_last h hr]
  exact plc h hr hp (by have := h.big; omega)

/-- the other end stands ahead -/
def Ahd (s : List Nat) (pl : Int → Nat) (x : Nat) : Prop := pl (nth (namesL s) (x ^^^ 1)) < pl (nth (namesL s) x)
/-- around v: from u on, to q, those ahead; behind q, to u, the others -/
structure RunAt (s : List Nat) (pl : Int → Nat) (v : Int) (q u j J : Nat) : Prop where
  ql : q < s.length
  ul : u < s.length
  qv : nth (namesL s) q = v
  uv : nth (namesL s) u = v
  ne : q ≠ u
  j0 : 0 < j
  qu : itf (at' s) j q = u
  uq : itf (at' s) J u = q
  one : ∀ l, l < J → itf (at' s) l u ≠ q
  no : ∀ l, 0 < l → l < j → ¬ Ahd s pl (itf (at' s) l q)
  yes : ∀ l, l ≤ J → Ahd s pl (itf (at' s) l u)
theorem run_at {i : Nat} (h2 : 2 ≤ i) (hi : i < (sizesL s).length) : (∃ q u j J, RunAt s pl (nth (orderL s r) i) q u j J ∧ (i < (sizesL s).length - 1 → 1 < j)) ∧
    (i = (sizesL s).length - 1 → ∀ x, x < s.length → nth (namesL s) x = nth (orderL s r) i → Ahd s pl x) := by
  obtain ⟨A, out, hR, hA, he⟩ := order_run h hr
  have hp' := hp
  rw [he] at hp'
  have hV := (hR.all h hr hA).1
  obtain ⟨t, ht, hti, hv⟩ : ∃ t, t < out.length ∧ t = (sizesL s).length - 1 - i ∧ nth (orderL s r) i = nth out t := by
    refine ⟨(sizesL s).length - 1 - i, by omega, rfl, ?_⟩
    obtain ⟨k, rfl⟩ : ∃ k, i = k + 2 := ⟨i - 2, by omega⟩
    rw [he]
    have e1 : nth (nth (namesL s) r :: nth (namesL s) (at' (phiL s) r) :: out.reverse) (k + 2) = nth out.reverse k := by simp [nth]
    rw [e1, nth_at (by simp; omega), nth_at (by omega), List.getElem_reverse]
    congr 1
    omega
  have ah : ∀ x, x < s.length → nth (namesL s) x = nth out t → (Ahd s pl x ↔ ¬ goneP s (out.take t) (x ^^^ 1)) := fun x hx e => pl_ahead h hr hR hA hp' ht hx e
  rw [hv]
  have it : ∀ x, x < s.length → ∀ m, itf (at' s) m x < s.length ∧ nth (namesL s) (itf (at' s) m x) = nth (namesL s) x := fun x hx m => by
    induction m with
    | zero => exact ⟨hx, rfl⟩
    | succ m ih => rw [itf_succ]; exact ⟨h.perm.lt ih.1, by rw [names_turn h.perm ih.1, ih.2]⟩
  constructor
  · obtain ⟨p, q, k1, k2, k3, k4, k5, ⟨j, j0, j1, j2⟩, ⟨J, J1, J2, J3⟩, k6, k7, k8⟩ := hR.hist t ht
    have hpm := xor_one_lt h.even k1
    have uv : nth (namesL s) (p ^^^ 1) = nth out t := by rw [k4, k3]
    have aq : Ahd s pl q := (ah q k2 k3.symm).2 k7
    have au : Ahd s pl (p ^^^ 1) := (ah _ hpm uv).2 (by rw [xor_one_one]; exact k6)
    have no : ∀ l, 0 < l → l < j → ¬ Ahd s pl (itf (at' s) l q) := fun l l0 l1 k => by
      have := it q k2 l
      exact ((ah _ this.1 (by rw [this.2, k3])).1 k) (j2 l l0 l1)
    have yes : ∀ l, l ≤ J → Ahd s pl (itf (at' s) l (p ^^^ 1)) := fun l l1 => by
      have tt := it _ hpm l
      rcases Nat.eq_zero_or_pos l with e | l0
      · subst e; exact au
      · rcases Nat.lt_or_ge l J with l2 | l2
        · exact (ah _ tt.1 (by rw [tt.2, uv])).2 (J3 l l0 l2)
        · obtain rfl : l = J := by omega
          rw [J1]; exact aq
    refine ⟨q, p ^^^ 1, j, J, ⟨k2, hpm, k3.symm, uv, k5, j0, j1, J1, J2, no, yes⟩, fun hlt => ?_⟩
    rcases Nat.lt_or_ge 1 j with g | g
    · exact g
    · obtain rfl : j = 1 := by omega
      obtain ⟨x, x1, x2, x3⟩ := k8 (by omega)
      exfalso
      obtain ⟨_, _, m, hm⟩ := (cyc_at h.perm).2 ⟨k2, x1, x2.symm⟩
      have all : ∀ m, ∃ l, l ≤ J ∧ itf (at' s) m q = itf (at' s) l (p ^^^ 1) := fun m => by
        induction m with
        | zero => exact ⟨J, Nat.le_refl _, J1.symm⟩
        | succ m ih =>
          obtain ⟨l, l1, l2⟩ := ih
          rw [itf_succ, l2]
          rcases Nat.lt_or_ge l J with g2 | g2
          · exact ⟨l + 1, g2, (itf_succ ..).symm⟩
          · obtain rfl : l = J := by omega
            rw [J1]
            exact ⟨0, Nat.zero_le _, j1⟩
      obtain ⟨l, l1, l2⟩ := all m
      rw [hm] at l2
      exact (ah x x1 (by rw [x2, k3])).1 (by rw [l2]; exact yes l l1) x3
  · intro e x hx ex
    have t0 : t = 0 := by omega
    exact (ah x hx ex).2 (by rw [t0]; rintro ⟨_, k⟩; simp at k)
end

section
variable {s : List Nat} (h : TriS s) {pl : Int → Nat} {v : Int} {q u j J : Nat} (hk : RunAt s pl v q u j J)
include h hk
theorem RunAt.cases {x : Nat} (hx : x < s.length) (e : nth (namesL s) x = v) : (∃ l, 0 < l ∧ l < j ∧ x = itf (at' s) l q) ∨ ∃ l, l ≤ J ∧ x = itf (at' s) l u := by
  obtain ⟨_, _, m, hm⟩ := (cyc_at h.perm).2 ⟨hk.ql, hx, by rw [hk.qv, e]⟩
  have all : ∀ m, (∃ l, 0 < l ∧ l < j ∧ itf (at' s) m q = itf (at' s) l q) ∨ ∃ l, l ≤ J ∧ itf (at' s) m q = itf (at' s) l u := fun m => by
    induction m with
    | zero => exact .inr ⟨J, Nat.le_refl _, hk.uq.symm⟩
    | succ m ih =>
      rcases ih with ⟨l, l0, l1, l2⟩ | ⟨l, l1, l2⟩
      · rw [itf_succ, l2]
        rcases Nat.lt_or_ge (l + 1) j with g | g
        · exact .inl ⟨l + 1, by omega, g, (itf_succ ..).symm⟩
        · refine .inr ⟨0, Nat.zero_le _, ?_⟩
          have : l + 1 = j := by omega
          rw [show at' s (itf (at' s) l q) = itf (at' s) (l + 1) q from (itf_succ ..).symm, this, hk.qu]
          rfl
      · rw [itf_succ, l2]
        rcases Nat.lt_or_ge l J with g | g
        · exact .inr ⟨l + 1, g, (itf_succ ..).symm⟩
        · obtain rfl : l = J := by omega
          rw [hk.uq]
          have j0 := hk.j0
          rcases Nat.lt_or_ge 1 j with g2 | g2
          · exact .inl ⟨1, by omega, g2, rfl⟩
          · have : j = 1 := by omega
            have qu := hk.qu
            rw [this] at qu
            exact .inr ⟨0, Nat.zero_le _, qu⟩
  rcases all m with ⟨l, l0, l1, l2⟩ | ⟨l, l1, l2⟩
  · exact .inl ⟨l, l0, l1, by rw [← hm, l2]⟩
  · exact .inr ⟨l, l1, by rw [← hm, l2]⟩
/-- the run's end -/
theorem RunAt.last {x : Nat} (hx : x < s.length) (e : nth (namesL s) x = v) (h1 : Ahd s pl x) (h2 : ¬ Ahd s pl (at' s x)) : x = q := by
  rcases hk.cases h hx e with ⟨l, l0, l1, l2⟩ | ⟨l, l1, l2⟩
  · exact absurd (by rw [← l2]; exact h1) (hk.no l l0 l1)
  · rcases Nat.lt_or_ge l J with g | g
    · have := hk.yes (l + 1) g
      rw [itf_succ, ← l2] at this
      exact absurd this h2
    · obtain rfl : l = J := by omega
      rw [l2, hk.uq]
theorem RunAt.aq : Ahd s pl q := by have := hk.yes J (Nat.le_refl _); rwa [hk.uq] at this
theorem RunAt.behind (h1 : 1 < j) : ¬ Ahd s pl (at' s q) := hk.no 1 (by omega) h1
end
end Go.Proofs.Ytcnmbenfnpjkjaa

namespace Go.Proofs.Ytcnmbenfnpjkjaa
set_option linter.unusedVariables false
set_option linter.unusedSectionVars false
/-- how many of the first e edges have the i-th as their later end -/
noncomputable def lateC (s : List Nat) (pl : Int → Nat) (i e : Nat) : Nat := tally (fun x => lateN s pl x = i) e
theorem lateC_succ (s : List Nat) (pl : Int → Nat) (i e : Nat) : lateC s pl i (e + 1) = lateC s pl i e + if lateN s pl e = i then 1 else 0 := by
  show tally _ e + ind (lateN s pl e = i) = _
  unfold lateC
  by_cases k : lateN s pl e = i
  · rw [ind_yes k, if_pos k]
  · rw [ind_no k, if_neg k]
section
variable {s : List Nat} (h : TriS s) {r : Nat} (hr : r < s.length) {pl : Int → Nat} (hp : Place (orderL s r) pl)
include h hr hp
theorem lateC_down {i : Nat} (hi : i < (sizesL s).length) : lateC s pl i (s.length / 2) = downN s pl (nth (orderL s r) i) := late_down h hr hp hi
theorem order_out : ∃ A out, ShRun s r A out ∧ A.length < 2 ∧ Place (nth (namesL s) r :: nth (namesL s) (at' (phiL s) r) :: out.reverse) pl ∧ out.length + 2 = (sizesL s).length ∧ ∀ i, 2 ≤ i → i < (sizesL s).length → nth (orderL s r) i = nth out ((sizesL s).length - 1 - i) := by
  obtain ⟨A, out, hR, hA, he⟩ := order_run h hr
  have hp' := hp
  rw [he] at hp'
  have hV := (hR.all h hr hA).1
  refine ⟨A, out, hR, hA, hp', hV, fun i h2 hi => ?_⟩
  obtain ⟨k, rfl⟩ : ∃ k, i = k + 2 := ⟨i - 2, by omega⟩
  rw [he]
  have e1 : nth (nth (namesL s) r :: nth (namesL s) (at' (phiL s) r) :: out.reverse) (k + 2) = nth out.reverse k := by simp [nth]
  rw [e1, nth_at (by simp; omega), nth_at (by omega), List.getElem_reverse]
  congr 1
  omega
theorem lateC_zero : lateC s pl 0 (s.length / 2) = 0 := by
  obtain ⟨A, out, hR, hA, hp', hV, _⟩ := order_out h hr hp
  rw [lateC_down h hr hp (by have := h.big; omega)]
  exact down_zero h hr hR hA hp'
theorem lateC_one : lateC s pl 1 (s.length / 2) = 1 := by
  obtain ⟨A, out, hR, hA, hp', hV, _⟩ := order_out h hr hp
  rw [lateC_down h hr hp (by have := h.big; omega)]
  exact down_one h hr hR hA hp'
theorem lateC_two {i : Nat} (h2 : 2 ≤ i) (hi : i < (sizesL s).length) : 2 ≤ lateC s pl i (s.length / 2) := by
  obtain ⟨A, out, hR, hA, hp', hV, ho⟩ := order_out h hr hp
  rw [lateC_down h hr hp hi, ho i h2 hi]
  exact down_two h hr hR hA hp' (by omega)
theorem lateC_third : lateC s pl 2 (s.length / 2) = 2 := by
  obtain ⟨A, out, hR, hA, hp', hV, ho⟩ := order_out h hr hp
  have hb := h.big
  rw [lateC_down h hr hp (by omega), ho 2 (by omega) (by omega), show (sizesL s).length - 1 - 2 = out.length - 1 by omega]
  exact down_third h hr hR hA hp' (by omega)
theorem lateC_sum : sumQ (fun i => lateC s pl i (s.length / 2)) (sizesL s).length + 6 = 3 * (sizesL s).length := by
  have e := sumQ_tally (lateN s pl) Any (sizesL s).length (s.length / 2)
  have e1 : sumQ (fun i => tally (fun e => Any e ∧ lateN s pl e = i) (s.length / 2)) (sizesL s).length = sumQ (fun i => lateC s pl i (s.length / 2)) (sizesL s).length := sumQ_congr fun i _ => tally_congr fun x _ => ⟨fun q => q.2, fun q => ⟨trivial, q⟩⟩
  have hev := h.even
  have e2 : tally (fun e => Any e ∧ lateN s pl e < (sizesL s).length) (s.length / 2) = s.length / 2 := tally_all fun x hx => ⟨trivial, late_lt h hr hp (by omega)⟩
  rw [← e1, e, e2]
  exact h.edges6
end
end Go.Proofs.Ytcnmbenfnpjkjaa

namespace Go.Proofs.Ytcnmbenfnpjkjaa
set_option linter.unusedVariables false
set_option linter.unusedSectionVars false
/-- just one of three -/
def One3 (a b c : Prop) : Prop := (a ∧ ¬ b ∧ ¬ c) ∨ (¬ a ∧ b ∧ ¬ c) ∨ (¬ a ∧ ¬ b ∧ c)
theorem tally_three {p a b c : Nat → Prop} : ∀ {n : Nat}, (∀ x, x < n → p x → One3 (a x) (b x) (c x)) → tally p n = tally (fun x => p x ∧ a x) n + tally (fun x => p x ∧ b x) n + tally (fun x => p x ∧ c x) n
  | 0, _ => rfl
  | n + 1, h => by
    rw [tally_succ, tally_succ, tally_succ, tally_succ, tally_three fun x hx => h x (by omega)]
    by_cases hp : p n
    · rcases h n (by omega) hp with ⟨k1, k2, k3⟩ | ⟨k1, k2, k3⟩ | ⟨k1, k2, k3⟩
      · rw [ind_yes hp, ind_yes ⟨hp, k1⟩, ind_no fun q => k2 q.2, ind_no fun q => k3 q.2]; omega
      · rw [ind_yes hp, ind_no fun q => k1 q.2, ind_yes ⟨hp, k2⟩, ind_no fun q => k3 q.2]; omega
      · rw [ind_yes hp, ind_no fun q => k1 q.2, ind_no fun q => k2 q.2, ind_yes ⟨hp, k3⟩]; omega
    · rw [ind_no hp, ind_no fun q => hp q.1, ind_no fun q => hp q.1, ind_no fun q => hp q.1]; omega
theorem tally_pick {n : Nat} {f : Nat → Nat} (hf : Pm n f) (h3 : ∀ x, x < n → f (f (f x)) = x) {A B Q : Nat → Prop} (hQ : ∀ x, x < n → (Q (f x) ↔ Q x))
    (hA : ∀ x, x < n → Q x → One3 (A x) (A (f x)) (A (f (f x)))) (hB : ∀ x, x < n → Q x → One3 (B x) (B (f x)) (B (f (f x)))) : tally (fun x => A x ∧ Q x) n = tally (fun x => B x ∧ Q x) n := by
  have e1 := tally_three (p := fun x => A x ∧ Q x) (a := fun x => B x) (b := fun x => B (f x)) (c := fun x => B (f (f x))) (n := n) fun x hx q => hB x hx q.2
  have e2 := tally_three (p := fun x => B x ∧ Q x) (a := fun x => A x) (b := fun x => A (f x)) (c := fun x => A (f (f x))) (n := n) fun x hx q => hA x hx q.2
  have c0 : tally (fun x => (A x ∧ Q x) ∧ B x) n = tally (fun x => (B x ∧ Q x) ∧ A x) n := tally_congr fun x _ => ⟨fun q => ⟨⟨q.2, q.1.2⟩, q.1.1⟩, fun q => ⟨⟨q.2, q.1.2⟩, q.1.1⟩⟩
  have c1 : tally (fun x => (B x ∧ Q x) ∧ A (f x)) n = tally (fun x => (A x ∧ Q x) ∧ B (f (f x))) n := by
    rw [← tally_perm hf (fun x => (A x ∧ Q x) ∧ B (f (f x)))]
    refine tally_congr fun x hx => ?_
    simp only [h3 x hx, hQ x hx]
    exact ⟨fun q => ⟨⟨q.2, q.1.2⟩, q.1.1⟩, fun q => ⟨⟨q.2, q.1.2⟩, q.1.1⟩⟩
  have c2 : tally (fun x => (A x ∧ Q x) ∧ B (f x)) n = tally (fun x => (B x ∧ Q x) ∧ A (f (f x))) n := by
    rw [← tally_perm hf (fun x => (B x ∧ Q x) ∧ A (f (f x)))]
    refine tally_congr fun x hx => ?_
    simp only [h3 x hx, hQ x hx]
    exact ⟨fun q => ⟨⟨q.2, q.1.2⟩, q.1.1⟩, fun q => ⟨⟨q.2, q.1.2⟩, q.1.1⟩⟩
  omega

section
variable {s : List Nat} (h : TriS s) {r : Nat} (hr : r < s.length) {pl : Int → Nat} (hp : Place (orderL s r) pl)
/-- the place of a dart's vertex -/
def plD (s : List Nat) (pl : Int → Nat) (x : Nat) : Nat := pl (nth (namesL s) x)
/-- the latest of a face -/
def lateF (s : List Nat) (pl : Int → Nat) (x : Nat) : Nat := max (max (plD s pl x) (plD s pl (at' (phiL s) x))) (plD s pl (at' (phiL s) (at' (phiL s) x)))
/-- not of the root's face -/
def OffR (s : List Nat) (r x : Nat) : Prop := x ≠ r ∧ x ≠ at' (phiL s) r ∧ x ≠ at' (phiL s) (at' (phiL s) r)
/-- the least of its face -/
def Lst (s : List Nat) (x : Nat) : Prop := x < at' (phiL s) x ∧ x < at' (phiL s) (at' (phiL s) x)
include h hr
theorem offR_phi {x : Nat} (hx : x < s.length) : OffR s r (at' (phiL s) x) ↔ OffR s r x := by
  obtain ⟨a, ha⟩ : ∃ a, at' (phiL s) x = a := ⟨_, rfl⟩
  obtain ⟨b, hb⟩ : ∃ a, at' (phiL s) r = a := ⟨_, rfl⟩
  obtain ⟨c, hc⟩ : ∃ a, at' (phiL s) b = a := ⟨_, rfl⟩
  have hP : Pm s.length (at' (phiL s)) := by have t := (phiL_perm h.perm h.even).pm; rwa [phiL_length] at t
  have bl : b < s.length := by rw [← hb]; exact hP.lt hr
  have cl : c < s.length := by rw [← hc]; exact hP.lt bl
  have h3 := (h.three r hr).1
  rw [hb, hc] at h3
  unfold OffR
  rw [ha, hb, hc]
  have k0 : x = r ↔ a = b := ⟨fun e => by rw [← ha, ← hb, e], fun e => hP.inj hx hr (by rw [ha, hb, e])⟩
  have k1 : x = b ↔ a = c := ⟨fun e => by rw [← ha, ← hc, e], fun e => hP.inj hx bl (by rw [ha, hc, e])⟩
  have k2 : x = c ↔ a = r := ⟨fun e => by rw [← ha, e, h3], fun e => hP.inj hx cl (by rw [ha, h3, e])⟩
  rw [Ne, Ne, Ne, Ne, Ne, Ne, k0, k1, k2]
  exact ⟨fun ⟨x1, x2, x3⟩ => ⟨x2, x3, x1⟩, fun ⟨x1, x2, x3⟩ => ⟨x3, x1, x2⟩⟩
include hp
theorem pl_diff {x : Nat} (hx : x < s.length) : plD s pl x ≠ plD s pl (at' (phiL s) x) ∧ plD s pl x ≠ plD s pl (at' (phiL s) (at' (phiL s) x)) ∧ plD s pl (at' (phiL s) x) ≠ plD s pl (at' (phiL s) (at' (phiL s) x)) := by
  have one : ∀ y, y < s.length → plD s pl y ≠ plD s pl (at' (phiL s) y) := fun y hy e => by
    unfold plD at e
    rw [names_phi h.perm h.even hy] at e
    exact h.loop y hy (place_inj h hr hp hy (xor_one_lt h.even hy) e)
  have x1 := h.phl hx
  have x2 := h.phl x1
  refine ⟨one x hx, fun e => ?_, one _ x1⟩
  have := one _ x2
  rw [(h.three x hx).1] at this
  exact this e.symm
theorem late_phi {x : Nat} (hx : x < s.length) : lateF s pl (at' (phiL s) x) = lateF s pl x := by
  unfold lateF
  rw [(h.three x hx).1]
  omega
/-- faces whose latest vertex is the i-th, the root's face not counted -/
noncomputable def faceC (s : List Nat) (r : Nat) (pl : Int → Nat) (i : Nat) : Nat := tally (fun d => Lst s d ∧ lateF s pl d = i ∧ OffR s r d) s.length
theorem face_low {i : Nat} (hi : i < 2) : faceC s r pl i = 0 := tally_none fun x hx q => by
  have k := pl_diff h hr hp hx
  have e := q.2.1
  unfold lateF at e
  omega
theorem face_turn (i : Nat) : faceC s r pl i = tally (fun y => plD s pl y = i ∧ Ahd s pl y ∧ Ahd s pl (at' s y) ∧ OffR s r (at' s y)) s.length := by
  have hP : Pm s.length (at' (phiL s)) := by have t := (phiL_perm h.perm h.even).pm; rwa [phiL_length] at t
  unfold faceC
  rw [tally_pick hP (fun x hx => (h.three x hx).1) (A := Lst s) (B := fun x => plD s pl x = i) (Q := fun d => lateF s pl d = i ∧ OffR s r d) (fun x hx => by rw [late_phi h hr hp hx, offR_phi h hr hx]) (fun x hx _ => by
    unfold Lst
    rw [(h.three x hx).1]
    have n1 := (h.three x hx).2
    have n2 := (h.three _ (h.phl hx)).2
    have n3 := (h.three _ (h.phl (h.phl hx))).2
    rw [(h.three x hx).1] at n3
    unfold One3
    omega) (fun x hx q => by
    have k := pl_diff h hr hp hx
    have e := q.1
    unfold lateF at e
    unfold One3
    omega), ← tally_perm h.perm.pm]
  refine tally_congr fun y hy => ?_
  have hx := h.perm.lt hy
  obtain ⟨x, ex⟩ : ∃ x, at' s y = x := ⟨_, rfl⟩
  rw [ex] at hx ⊢
  have py : plD s pl y = plD s pl x := by unfold plD; rw [← ex, names_turn h.perm hy]
  have a1 : Ahd s pl x ↔ plD s pl (at' (phiL s) x) < plD s pl x := by unfold Ahd plD; rw [names_phi h.perm h.even hx]
  -- y's mate closes the face of x
  have hm := xor_one_lt h.even hy
  have e1 : at' (phiL s) (y ^^^ 1) = x := by rw [phiL_at hm, xor_one_one, ex]
  have e2 : at' (phiL s) (at' (phiL s) x) = y ^^^ 1 := by rw [← e1]; exact (h.three _ hm).1
  have a2 : Ahd s pl y ↔ plD s pl (at' (phiL s) (at' (phiL s) x)) < plD s pl x := by rw [← py, e2]; exact Iff.rfl
  have k := pl_diff h hr hp hx
  rw [a1, a2, py]
  unfold lateF
  constructor
  · rintro ⟨q1, q2, q3⟩
    exact ⟨q1, by omega, by omega, q3⟩
  · rintro ⟨q1, q2, q3, q4⟩
    exact ⟨q1, by omega, q4⟩
theorem down_plD {i : Nat} (hi : i < (sizesL s).length) : downN s pl (nth (orderL s r) i) = tally (fun y => plD s pl y = i ∧ Ahd s pl y) s.length := by
  have hpi := plc h hr hp hi
  unfold downN
  refine tally_congr fun y hy => ?_
  have : nth (namesL s) y = nth (orderL s r) i ↔ plD s pl y = i := ⟨fun e => by unfold plD; rw [e, hpi], fun e => by have := (place_of h hr hp hy).2; unfold plD at e; rw [e] at this; exact this.symm⟩
  rw [this]
  unfold Ahd
  constructor
  · rintro ⟨q1, q2⟩
    refine ⟨q1, ?_⟩
    rw [hpi] at q2
    unfold plD at q1
    omega
  · rintro ⟨q1, q2⟩
    refine ⟨q1, ?_⟩
    rw [hpi]
    unfold plD at q1
    omega
theorem face_down {i : Nat} (h2 : 2 ≤ i) (hi : i < (sizesL s).length) : faceC s r pl i + 1 = lateC s pl i (s.length / 2) := by
  rw [lateC_down h hr hp hi, down_plD h hr hp hi, face_turn h hr hp]
  obtain ⟨⟨q, u, j, J, hk, hj⟩, hall⟩ := run_at h hr hp h2 hi
  have at_i : ∀ x, x < s.length → (plD s pl x = i ↔ nth (namesL s) x = nth (orderL s r) i) := fun x hx => ⟨fun e => by have := (place_of h hr hp hx).2; unfold plD at e; rw [e] at this; exact this.symm, fun e => by unfold plD; rw [e]; exact plc h hr hp hi⟩
  have p0 : plD s pl r = 0 := plc_first h hr hp
  have p1 : plD s pl (at' (phiL s) r) = 1 := plc_second h hr hp
  have p2 : plD s pl (at' (phiL s) (at' (phiL s) r)) = (sizesL s).length - 1 := plc_last h hr hp
  have turn : ∀ y, y < s.length → plD s pl (at' s y) = plD s pl y := fun y hy => by unfold plD; rw [names_turn h.perm hy]
  rcases Nat.lt_or_ge i ((sizesL s).length - 1) with g | g
  · have hj := hj g
    rw [tally_but (p := fun y => plD s pl y = i ∧ Ahd s pl y) (a := q) hk.ql ⟨(at_i q hk.ql).2 hk.qv, hk.aq h⟩]
    congr 1
    refine tally_congr fun y hy => ?_
    constructor
    · rintro ⟨a, b, c, d⟩
      exact ⟨⟨a, b⟩, fun e => hk.behind h hj (by rw [← e]; exact c)⟩
    · rintro ⟨⟨a, b⟩, c⟩
      have hs := turn y hy
      refine ⟨a, b, Classical.byContradiction fun k => c (hk.last h hy ((at_i y hy).1 a) b k), ?_, ?_, ?_⟩
      · intro e; rw [e, p0] at hs; omega
      · intro e; rw [e, p1] at hs; omega
      · intro e; rw [e, p2] at hs; omega
  · have hiV : i = (sizesL s).length - 1 := by omega
    have hall := hall hiV
    have hc := h.phl (h.phl hr)
    obtain ⟨y0, y1, y2⟩ := h.perm.pm.pre hc
    have hy0 : plD s pl y0 = i := by rw [← turn y0 y1, y2, p2, hiV]
    rw [tally_but (p := fun y => plD s pl y = i ∧ Ahd s pl y) (a := y0) y1 ⟨hy0, hall y0 y1 ((at_i y0 y1).1 hy0)⟩]
    congr 1
    refine tally_congr fun y hy => ?_
    constructor
    · rintro ⟨a, b, c, d⟩
      exact ⟨⟨a, b⟩, fun e => d.2.2 (by rw [e, y2])⟩
    · rintro ⟨⟨a, b⟩, c⟩
      have hs := turn y hy
      have hsl := h.perm.lt hy
      refine ⟨a, b, hall _ hsl ((at_i _ hsl).1 (by rw [hs, a])), ?_, ?_, ?_⟩
      · intro e; rw [e, p0] at hs; omega
      · intro e; rw [e, p1] at hs; omega
      · intro e; exact c (h.perm.pm.inj hy y1 (by rw [e, y2]))
/-- the edges and the faces of the first n -/
theorem grows {n : Nat} (h3 : 2 ≤ n) (hn : n ≤ (sizesL s).length) : tally (fun d => (Lst s d ∧ OffR s r d) ∧ lateF s pl d < n) s.length + n = tally (fun e => lateN s pl e < n) (s.length / 2) + 1 := by
  have e1 := sumQ_tally (lateF s pl) (fun d => Lst s d ∧ OffR s r d) n s.length
  have e2 := sumQ_tally (lateN s pl) Any n (s.length / 2)
  have e3 : tally (fun e => Any e ∧ lateN s pl e < n) (s.length / 2) = tally (fun e => lateN s pl e < n) (s.length / 2) := tally_congr fun x _ => ⟨fun q => q.2, fun q => ⟨trivial, q⟩⟩
  rw [← e1, ← e3, ← e2]
  have e4 : sumQ (fun i => tally (fun e => (Lst s e ∧ OffR s r e) ∧ lateF s pl e = i) s.length) n = sumQ (faceC s r pl) n := sumQ_congr fun i _ => tally_congr fun x _ => ⟨fun q => ⟨q.1.1, q.2, q.1.2⟩, fun q => ⟨⟨q.1, q.2.2⟩, q.2.1⟩⟩
  have e5 : sumQ (fun i => tally (fun e => Any e ∧ lateN s pl e = i) (s.length / 2)) n = sumQ (fun i => lateC s pl i (s.length / 2)) n := sumQ_congr fun i _ => tally_congr fun x _ => ⟨fun q => q.2, fun q => ⟨trivial, q⟩⟩
  rw [e4, e5]
  have step : ∀ k, k + 2 ≤ (sizesL s).length → sumQ (faceC s r pl) (k + 2) + (k + 2) = sumQ (fun i => lateC s pl i (s.length / 2)) (k + 2) + 1 := fun k => by
    induction k with
    | zero =>
      intro _
      have f0 := face_low h hr hp (i := 0) (by omega)
      have f1 := face_low h hr hp (i := 1) (by omega)
      have l0 := lateC_zero h hr hp
      have l1 := lateC_one h hr hp
      show 0 + faceC s r pl 0 + faceC s r pl 1 + 2 = 0 + lateC s pl 0 (s.length / 2) + lateC s pl 1 (s.length / 2) + 1
      omega
    | succ k ih =>
      intro hk
      have f := face_down h hr hp (i := k + 2) (by omega) (by omega)
      have := ih (by omega)
      show sumQ (faceC s r pl) (k + 2) + faceC s r pl (k + 2) + (k + 1 + 2) = sumQ (fun i => lateC s pl i (s.length / 2)) (k + 2) + lateC s pl (k + 2) (s.length / 2) + 1
      omega
  obtain ⟨k, rfl⟩ : ∃ k, n = k + 2 := ⟨n - 2, by omega⟩
  exact step k hn
end
end Go.Proofs.Ytcnmbenfnpjkjaa

namespace Go.Proofs.Ytcnmbenfnpjkjaa
set_option linter.unusedVariables false
set_option linter.unusedSectionVars false
/-- the first i of an order have their places -/
def PlTo (P L : List Int) (V i : Nat) : Prop := P.length = V ∧ ∀ j, j < i → nth P (nth L j).toNat = (j : Int)
def plP (P : List Int) (v : Int) : Nat := (nth P v.toNat).toNat
theorem PlTo.start (L : List Int) (V : Nat) : PlTo (List.replicate V 0) L V 0 := ⟨by simp, fun j hj => absurd hj (Nat.not_lt_zero _)⟩
theorem PlTo.step {P L : List Int} {V i : Nat} (h : PlTo P L V i) (hn : L.Nodup) (hb : ∀ v, v ∈ L → 0 ≤ v ∧ v < (V : Int)) (hi : i < L.length) : PlTo (P.set (nth L i).toNat (i : Int)) L V (i + 1) := by
  refine ⟨by simpa using h.1, fun j hj => ?_⟩
  have k1 := hb _ (nth_mem hi)
  have k2 := hb _ (nth_mem (show j < L.length by omega))
  rw [nth_set (by rw [h.1]; omega)]
  by_cases e : j = i
  · subst e; rw [if_pos rfl]
  · rw [if_neg, h.2 j (by omega)]
    intro q
    have : nth L i = nth L j := by omega
    rw [nth_at hi, nth_at (show j < L.length by omega)] at this
    exact e (nodup_idx hn (by omega) hi this.symm)
theorem PlTo.place {P L : List Int} {V : Nat} (h : PlTo P L V L.length) : Place L (plP P) := fun i hi => by
  unfold plP
  rw [h.2 i hi]
  exact Int.toNat_natCast i
section
variable {s : List Nat} (h : TriS s) {r : Nat} (hr : r < s.length) {P : List Int} (hP : PlTo P (orderL s r) (sizesL s).length (sizesL s).length)
include h hr hP
theorem PlTo.pl : Place (orderL s r) (plP P) := by
  have := hP
  rw [← order_len h hr] at this
  exact PlTo.place (V := (orderL s r).length) this
theorem PlTo.at {x : Nat} (hx : x < s.length) : nth P (vtx s x) = (plD s (plP P) x : Int) ∧ plD s (plP P) x < (sizesL s).length ∧ vtx s x < (sizesL s).length := by
  have k1 := place_of h hr (hP.pl h hr) hx
  have k2 : (plP P (nth (namesL s) x) : Int) = nth P (vtx s x) := by
    have := hP.2 _ k1.1
    rw [k1.2, vtx_eq h.perm hx] at this
    rw [vtx_eq h.perm hx]
    exact this.symm
  exact ⟨k2.symm, k1.1, vtx_lt h.perm hx⟩
end
/-- the first e edges are counted -/
def EdTo (s : List Nat) (pl : Int → Nat) (V e : Nat) (E : List Int) : Prop := E.length = V ∧ ∀ i, i < V → nth E i = (lateC s pl i e : Int)
theorem EdTo.start (s : List Nat) (pl : Int → Nat) (V : Nat) : EdTo s pl V 0 (List.replicate V 0) := ⟨by simp, fun i _ => by rw [nth_rep0]; rfl⟩
theorem EdTo.step {s : List Nat} {pl : Int → Nat} {V e : Nat} {E : List Int} (h : EdTo s pl V e E) (hk : lateN s pl e < V) : EdTo s pl V (e + 1) (E.set (lateN s pl e) (nth E (lateN s pl e) + 1)) := by
  refine ⟨by simpa using h.1, fun i hi => ?_⟩
  rw [nth_set (by rw [h.1]; exact hk), lateC_succ]
  by_cases q : lateN s pl e = i
  · subst q; rw [if_pos rfl, if_pos rfl, h.2 _ hk]; omega
  · rw [if_neg q, if_neg q, h.2 _ hi]; omega
theorem lateC_le (s : List Nat) (pl : Int → Nat) (i e : Nat) : lateC s pl i e ≤ e := tally_le _ _
theorem sumQ_le (f : Nat → Nat) (c : Nat) (h : ∀ i, f i ≤ c) : ∀ k, sumQ f k ≤ k * c
  | 0 => Nat.zero_le _
  | k + 1 => by have := sumQ_le f c h k; have := h k; show sumQ f k + f k ≤ _; rw [Nat.add_mul]; omega
end Go.Proofs.Ytcnmbenfnpjkjaa
