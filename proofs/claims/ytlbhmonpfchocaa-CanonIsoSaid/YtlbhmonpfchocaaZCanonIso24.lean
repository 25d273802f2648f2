/- The walk, and so the canonical names, by other names. Conditions: none. The canonical map's canonical names are its own. Conditions: none. The walk doesn't hang on how many places there are for vertices; where the parts are walked from. Conditions: none. canon.roots. Conditions: the map is registered. perm.One. Conditions: not below nought, not too great. dual.Relabel. Conditions: the map and the names are registered. -/
import Derived.Test.YtlbhmonpfchocaaZCanonIso22
import Derived.Test.YtlbhmonpfchocaaZCanonIso18
import Derived.Test.YtlbhmonpfchocaaZCanonIso23
import Derived.Test.YtlbhmonpfchocaaZCanonIso21
namespace Go.Proofs.Ytlbhmonpfchocaa
set_option linter.unusedVariables false

theorem setB_len {l : List Bool} {i : Nat} {b : Bool} : (l.set i b).length = l.length := List.length_set
theorem half_rel {s t : List Nat} (he : s.length % 2 = 0) (ht : IsPerm t) (hl : t.length = s.length) (hm : Mates t) {x y : Nat} (hx : x < s.length) (hy : y < s.length) : at' t x / 2 = at' t y / 2 ↔ x / 2 = y / 2 := by
  constructor
  · intro h
    rcases half_eq h with e | e
    · rw [ht.inj (by omega) (by omega) e]
    · rw [← hm y (by omega)] at e
      rw [ht.inj (by omega) (by rw [hl]; exact xor_one_lt he hy) e, xor_one_div]
  · intro h
    rcases half_eq h with e | e
    · rw [e]
    · rw [e, hm y (by omega), xor_one_div]
section
variable {s t : List Nat} (hs : IsPerm s) (he : s.length % 2 = 0) (ht : IsPerm t) (hl : t.length = s.length) (hm : Mates t)
include hs he ht hl hm

theorem vtx_rel {x y : Nat} (hx : x < s.length) (hy : y < s.length) : vtx (relL s t) (at' t x) = vtx (relL s t) (at' t y) ↔ vtx s x = vtx s y := by
  have _u := hm
  have hp := relL_perm hs ht hl
  have hrl := relL_length s t
  have hlt : ∀ x, x < s.length → at' t x < s.length := fun x hx => by have := ht.lt (i := x) (by rw [hl]; exact hx); omega
  rw [vtx_cyc hs hx hy, vtx_cyc hp (by rw [hrl]; exact hlt x hx) (by rw [hrl]; exact hlt y hy), hrl, ← rel_cyc hs ht hl hx hy]

/-- at the same place -/
structure SimW (s t : List Nat) (a b : WSt) : Prop where
  lt : a.d < s.length
  d : b.d = at' t a.d
  el : a.ed.length = s.length / 2
  el' : b.ed.length = s.length / 2
  ml : a.mt.length = (sizesL s).length
  ml' : b.mt.length = (sizesL s).length
  ed : ∀ x, x < s.length → nth b.ed (at' t x / 2) = nth a.ed (x / 2)
  mt : ∀ x, x < s.length → getB b.mt (vtx (relL s t) (at' t x)) = getB a.mt (vtx s x)
theorem SimW.kind {a b : WSt} (h : SimW s t a b) : wkind (relL s t) b = wkind s a := by
  have _u := hs
  have _v := ht
  unfold wkind
  rw [h.d, ← hm a.d (by rw [hl]; exact h.lt), h.ed _ h.lt, h.mt _ (xor_one_lt he h.lt)]
theorem SimW.next {a b : WSt} (h : SimW s t a b) : SimW s t (wnext s a) (wnext (relL s t) b) := by
  have hk := h.kind hs he ht hl hm
  have hxl := xor_one_lt he h.lt
  have hp := relL_perm hs ht hl
  have hrl := relL_length s t
  have hlt : ∀ x, x < s.length → at' t x < s.length := fun x hx => by have := ht.lt (i := x) (by rw [hl]; exact hx); omega
  have hd0 : nth b.ed (b.d / 2) = nth a.ed (a.d / 2) := by rw [h.d]; exact h.ed _ h.lt
  have hmd : b.d ^^^ 1 = at' t (a.d ^^^ 1) := by rw [h.d, hm a.d (by rw [hl]; exact h.lt)]
  have hh := h.lt
  have hbl := hlt _ hh
  refine ⟨?_, ?_, ?_, ?_, ?_, ?_, fun x hx => ?_, fun x hx => ?_⟩
  · show wdart s a < s.length
    unfold wdart
    split
    · exact hs.lt hxl
    · exact hs.lt hh
  · show wdart (relL s t) b = at' t (wdart s a)
    unfold wdart
    rw [hk]
    split
    · rw [hmd, relL_to ht hl hxl]
    · rw [h.d, relL_to ht hl hh]
  · show (wed s a).length = _
    unfold wed; split <;> simp [h.el]
  · show (wed _ b).length = _
    unfold wed; split <;> simp [h.el']
  · show (wmt s a).length = _
    unfold wmt; split <;> simp [h.ml]
  · show (wmt _ b).length = _
    unfold wmt; split <;> simp [h.ml']
  · show nth (wed _ b) _ = nth (wed s a) _
    unfold wed
    rw [hd0, hk]
    by_cases h0 : nth a.ed (a.d / 2) = 0
    · rw [if_pos h0, if_pos h0, nth_set (by rw [h.el', h.d]; omega), nth_set (by rw [h.el]; omega), h.ed x hx, h.d]
      by_cases e : a.d / 2 = x / 2
      · rw [if_pos e, if_pos ((half_rel he ht hl hm hh hx).2 e)]
      · rw [if_neg e, if_neg (fun k => e ((half_rel he ht hl hm hh hx).1 k))]
    · rw [if_neg h0, if_neg h0]; exact h.ed x hx
  · show getB (wmt _ b) _ = getB (wmt s a) _
    unfold wmt
    rw [hk]
    by_cases h0 : wkind s a = 0
    · have hvl := vtx_lt hp (x := at' t (a.d ^^^ 1)) (by rw [hrl]; exact hlt _ hxl)
      rw [rel_vertices hs ht hl] at hvl
      rw [if_pos h0, if_pos h0, hmd, getB_set (by rw [h.ml']; exact hvl), getB_set (by rw [h.ml]; exact vtx_lt hs hxl), h.mt x hx]
      by_cases e : vtx s (a.d ^^^ 1) = vtx s x
      · rw [if_pos e, if_pos ((vtx_rel hs he ht hl hm hxl hx).2 e)]
      · rw [if_neg e, if_neg (fun k => e ((vtx_rel hs he ht hl hm hxl hx).1 k))]
    · rw [if_neg h0, if_neg h0]; exact h.mt x hx
theorem SimW.all {root : Nat} (hr : root < s.length) : ∀ i, SimW s t (wst s (sizesL s).length root i) (wst (relL s t) (sizesL s).length (at' t root) i)
  | 0 => by
    have hp := relL_perm hs ht hl
    have hrl := relL_length s t
    have hlt : ∀ x, x < s.length → at' t x < s.length := fun x hx => by have := ht.lt (i := x) (by rw [hl]; exact hx); omega
    have hvl := vtx_lt hp (x := at' t root) (by rw [hrl]; exact hlt _ hr)
    rw [rel_vertices hs ht hl] at hvl
    refine ⟨hr, rfl, by simp [wst], by simp [wst, hrl], by simp [wst], by simp [wst], fun x hx => ?_, fun x hx => ?_⟩
    · show nth (List.replicate _ 0) _ = nth (List.replicate _ 0) _
      rw [nth_rep, nth_rep]
    · show getB (List.set (List.replicate _ _) _ _) _ = getB (List.set (List.replicate _ _) _ _) _
      rw [getB_set (by rw [List.length_replicate]; exact hvl), getB_set (by rw [List.length_replicate]; exact vtx_lt hs hr)]
      have hf : ∀ (n i : Nat), getB (List.replicate n false) i = false := fun n i => by
        unfold getB
        by_cases h : i < n <;> simp [h]
      rw [hf, hf]
      by_cases e : vtx s root = vtx s x
      · rw [if_pos e, if_pos ((vtx_rel hs he ht hl hm hr hx).2 e)]
      · rw [if_neg e, if_neg (fun k => e ((vtx_rel hs he ht hl hm hr hx).1 k))]
  | i + 1 => (SimW.all hr i).next hs he ht hl hm
theorem wd_rel {root : Nat} (hr : root < s.length) (i : Nat) : wd (relL s t) (sizesL s).length (at' t root) i = at' t (wd s (sizesL s).length root i) := (SimW.all hs he ht hl hm hr i).d
theorem part_rel {root : Nat} (hr : root < s.length) : partC' (relL s t) (at' t root) = partC' s root := by
  have hp := relL_perm hs ht hl
  have hrl := relL_length s t
  have hlt : ∀ x, x < s.length → at' t x < s.length := fun x hx => by have := ht.lt (i := x) (by rw [hl]; exact hx); omega
  obtain ⟨a1, a2, a3⟩ := wlen hs he hr (V := (sizesL s).length) (Nat.le_refl _)
  obtain ⟨b1, b2, b3⟩ := wlen hp (by rw [hrl]; exact he) (root := at' t root) (by rw [hrl]; exact hlt _ hr) (V := (sizesL s).length) (by rw [rel_vertices hs ht hl]; exact Nat.le_refl _)
  have hw := wd_rel hs he ht hl hm hr
  rcases Nat.lt_trichotomy (partC' (relL s t) (at' t root)) (partC' s root) with h | h | h
  · exfalso
    rw [hw] at b1
    exact a3 _ b2 h (ht.inj (by rw [hl]; exact (SimW.all hs he ht hl hm hr _).lt) (by rw [hl]; exact hr) b1)
  · exact h
  · exfalso
    exact b3 _ a2 h (by rw [hw, a1])
theorem walkD_rel {root : Nat} (hr : root < s.length) : walkD (relL s t) (at' t root) = (walkD s root).map (at' t) := by
  unfold walkD
  rw [part_rel hs he ht hl hm hr, rel_vertices hs ht hl, List.map_map]
  exact List.map_congr_left fun j _ => wd_rel hs he ht hl hm hr j
end

/-- names that keep edges apart -/
structure HalfM (n : Nat) (f : Nat → Nat) : Prop where
  half : ∀ x y, x < n → y < n → (f x / 2 = f y / 2 ↔ x / 2 = y / 2)
  inj : ∀ x y, x < n → y < n → f x = f y → x = y
theorem hasE_map {n : Nat} {f : Nat → Nat} (h : HalfM n f) {F : List Nat} (hF : ∀ x, x ∈ F → x < n) {d : Nat} (hd : d < n) : hasE (F.map f) (f d) = hasE F d := by
  unfold hasE
  rw [List.any_map, Bool.eq_iff_iff, List.any_eq_true, List.any_eq_true]
  constructor
  · rintro ⟨x, hx, k⟩
    have k : decide (f x / 2 = f d / 2) = true := k
    exact ⟨x, hx, by simpa using (h.half x d (hF x hx) hd).1 (by simpa using k)⟩
  · rintro ⟨x, hx, k⟩
    refine ⟨x, hx, ?_⟩
    show decide (f x / 2 = f d / 2) = true
    simpa using (h.half x d (hF x hx) hd).2 (by simpa using k)
theorem fst_map {n : Nat} {f : Nat → Nat} (h : HalfM n f) : ∀ (ds F : List Nat), (∀ x, x ∈ F → x < n) → (∀ x, x ∈ ds → x < n) → fstL (F.map f) (ds.map f) = (fstL F ds).map f
  | [], F, _, _ => rfl
  | d :: ds, F, hF, hd => by
    have hdn := hd d List.mem_cons_self
    have e : fstAdd (F.map f) (f d) = (fstAdd F d).map f := by
      unfold fstAdd
      rw [hasE_map h hF hdn]
      split
      · rfl
      · simp
    show fstL (fstAdd (F.map f) (f d)) (ds.map f) = _
    rw [e]
    refine fst_map h ds _ (fun x hx => ?_) fun x hx => hd x (List.mem_cons_of_mem _ hx)
    unfold fstAdd at hx
    split at hx
    · exact hF x hx
    · rcases List.mem_append.1 hx with k | k
      · exact hF x k
      · rw [List.mem_singleton.1 k]; exact hdn
theorem nm_map {n : Nat} {f : Nat → Nat} (h : HalfM n f) {F : List Nat} (hF : FOk n F) {d : Nat} (hd : d < n) (hh : hasE F d = true) (hm : f (d ^^^ 1) = f d ^^^ 1) : nmF (F.map f) (f d) = nmF F d := by
  have hat : ∀ i, i < F.length → at' (F.map f) i = f (at' F i) := fun i hi => by simp [at', hi]
  have hok : FOk (n + (F.map f).sum + 1) (F.map f) := ⟨fun i hi => by
    rw [List.length_map] at hi
    have h1 : at' (F.map f) i ∈ F.map f := by rw [at'_eq (by rw [List.length_map]; exact hi)]; exact List.getElem_mem _
    have : at' (F.map f) i ≤ (F.map f).sum := by
      have key : ∀ (l : List Nat) x, x ∈ l → x ≤ l.sum := fun l => by
        induction l with
        | nil => intro x hx; cases hx
        | cons a l ih =>
          intro x hx
          rw [List.sum_cons]
          rcases List.mem_cons.1 hx with rfl | k
          · omega
          · have := ih x k; omega
      exact key _ _ h1
    omega, fun i j hi hj e => by
    rw [List.length_map] at hi hj
    rw [hat i hi, hat j hj] at e
    exact hF.one i j hi hj ((h.half _ _ (hF.lt i hi) (hF.lt j hj)).1 e)⟩
  obtain ⟨i, hi, ⟨e1, e2⟩ | ⟨e1, e2⟩⟩ := nm_cases hF hh
  · rw [e2, e1, ← hat i hi, nm_at hok (by rw [List.length_map]; exact hi)]
  · have e3 : f d = f (at' F i) ^^^ 1 := by
      have : f (at' F i) = f d ^^^ 1 := by rw [← hm, e1, xor_one_one]
      rw [this, xor_one_one]
    rw [e2, e3, ← hat i hi, nm_mate hok (by rw [List.length_map]; exact hi)]

section
variable {s t : List Nat} (hs : IsPerm s) (he : s.length % 2 = 0) (ht : IsPerm t) (hl : t.length = s.length) (hm : Mates t)
include hs he ht hl hm
theorem rel_half : HalfM s.length (at' t) := by
  have _u := hs
  exact ⟨fun x y hx hy => half_rel he ht hl hm hx hy, fun x y hx hy e => ht.inj (by omega) (by omega) e⟩
/-- where the roots are the same, so are the names -/
theorem canL_rel {root : Nat} (hr : root < s.length) (hroots : rootsL (relL s t) (at' t root) = (rootsL s root).map (at' t)) {d : Nat} (hd : d < s.length) : at' (canL (relL s t) (at' t root)) (at' t d) = at' (canL s root) d := by
  have hrl := relL_length s t
  have hlt : ∀ x, x < s.length → at' t x < s.length := fun x hx => by have := ht.lt (i := x) (by rw [hl]; exact hx); omega
  have hD : canD (relL s t) (at' t root) = (canD s root).map (at' t) := by
    unfold canD
    rw [hrl, if_neg (by omega), if_neg (by omega), hroots]
    have key : ∀ l : List Nat, (∀ r, r ∈ l → r < s.length) → (l.map (at' t)).flatMap (walkD (relL s t)) = (l.flatMap (walkD s)).map (at' t) := fun l => by
      induction l with
      | nil => intro _; rfl
      | cons a l ih =>
        intro h
        rw [List.map_cons, List.flatMap_cons, List.flatMap_cons, List.map_append, ih fun r hr => h r (List.mem_cons_of_mem _ hr), walkD_rel hs he ht hl hm (h a List.mem_cons_self)]
    exact key _ (rootsL_lt hr)
  have hF : canF (relL s t) (at' t root) = (canF s root).map (at' t) := by
    unfold canF
    rw [hD]
    exact fst_map (rel_half hs he ht hl hm) _ [] (fun x hx => by cases hx) (canD_lt hs he hr)
  unfold canL
  rw [hrl, canP_at (hlt d hd), canP_at hd, hF]
  exact nm_map (rel_half hs he ht hl hm) (canF_ok hs he hr) hd (canF_all hs he hr d hd) (hm d (by omega))
end
/-- of one part -/
theorem rootsL_one {s : List Nat} (hs : IsPerm s) (he : s.length % 2 = 0) {root : Nat} (hr : root < s.length) (h1 : ∀ x, x < s.length → Con s root x) : rootsL s root = [root] := by
  unfold rootsL restTo
  rw [List.filter_eq_nil_iff.2]
  intro d hd k
  exact (firstB_iff.1 k).1 (((partsL_ord hs he).rel _ _ (List.mem_range.1 hd) hr).2 ((Con.per hs).symm (h1 d (List.mem_range.1 hd))))
/-- two lists that rise and have the same members are the same -/
theorem rise_eq : ∀ (a b : List Nat), a.Pairwise (· < ·) → b.Pairwise (· < ·) → (∀ x, x ∈ a ↔ x ∈ b) → a = b
  | [], [], _, _, _ => rfl
  | [], y :: b, _, _, h => by have := (h y).2 List.mem_cons_self; cases this
  | x :: a, [], _, _, h => by have := (h x).1 List.mem_cons_self; cases this
  | x :: a, y :: b, ha, hb, h => by
    have ha' := List.pairwise_cons.1 ha
    have hb' := List.pairwise_cons.1 hb
    have e : x = y := by
      rcases List.mem_cons.1 ((h x).1 List.mem_cons_self) with k | k
      · exact k
      · rcases List.mem_cons.1 ((h y).2 List.mem_cons_self) with k' | k'
        · exact k'.symm
        · have := ha'.1 _ k'; have := hb'.1 _ k; omega
    subst e
    rw [rise_eq a b ha'.2 hb'.2 fun z => ⟨fun hz => by
      rcases List.mem_cons.1 ((h z).1 (List.mem_cons_of_mem _ hz)) with k | k
      · have := ha'.1 _ hz; omega
      · exact k, fun hz => by
      rcases List.mem_cons.1 ((h z).2 (List.mem_cons_of_mem _ hz)) with k | k
      · have := hb'.1 _ hz; omega
      · exact k⟩]

end Go.Proofs.Ytlbhmonpfchocaa

namespace Go.Proofs.Ytlbhmonpfchocaa
set_option linter.unusedVariables false

theorem fst_ext : ∀ (ds F : List Nat), ∃ l, fstL F ds = F ++ l
  | [], F => ⟨[], (List.append_nil F).symm⟩
  | d :: ds, F => by
    obtain ⟨l, h⟩ := fst_ext ds (fstAdd F d)
    show ∃ l, fstL (fstAdd F d) ds = F ++ l
    rw [h]
    unfold fstAdd
    split
    · exact ⟨l, rfl⟩
    · exact ⟨d :: l, by simp⟩
theorem at_app2 {F l : List Nat} {i : Nat} (hi : i < F.length) : at' (F ++ l) i = at' F i := by simp [at', List.getD, List.getElem?_append_left hi]
section
variable {n : Nat} {G l : List Nat} (h : FOk n (G ++ l))
include h
theorem nm_old {x : Nat} (hx : hasE G x = true) : nmF (G ++ l) x < 2 * G.length := by
  obtain ⟨i, hi, e⟩ := hasE_iff.1 hx
  have hi' : i < (G ++ l).length := by simp; omega
  rcases half_eq e.symm with k | k
  · rw [k, ← at_app2 (l := l) hi, nm_at h hi']; omega
  · rw [k, ← at_app2 (l := l) hi, nm_mate h hi']; omega
theorem nm_new {x : Nat} (hx : ¬ hasE G x = true) (ha : hasE (G ++ l) x = true) : 2 * G.length ≤ nmF (G ++ l) x := by
  obtain ⟨i, hi, k⟩ := nm_cases h ha
  have hge : G.length ≤ i := by
    rcases Nat.lt_or_ge i G.length with h1 | h1
    · exfalso
      rw [at_app2 h1] at k
      refine hx (hasE_iff.2 ⟨i, h1, ?_⟩)
      rcases k with ⟨k, _⟩ | ⟨k, _⟩
      · rw [k]
      · rw [k, xor_one_div]
    · exact h1
  rcases k with ⟨_, k⟩ | ⟨_, k⟩ <;> omega
end
section
variable {s : List Nat} (hs : IsPerm s) (he : s.length % 2 = 0)
include hs he
theorem mem_rest {root d : Nat} (hr : root < s.length) : d ∈ restTo (partsL s) root s.length ↔ d < s.length ∧ ¬ Con s root d ∧ Least (Con s) d := by
  have hrel := (partsL_ord hs he).rel
  unfold restTo
  rw [List.mem_filter, List.mem_range, firstB_iff]
  constructor
  · rintro ⟨h1, h2, h3⟩
    exact ⟨h1, fun hc => h2 ((hrel _ _ hr h1).2 hc).symm, fun y hy hc => h3 y hy ((hrel _ _ (by omega) h1).2 hc)⟩
  · rintro ⟨h1, h2, h3⟩
    exact ⟨h1, fun hc => h2 ((hrel _ _ hr h1).1 hc.symm), fun y hy hc => h3 y hy ((hrel _ _ (by omega) h1).1 hc)⟩
theorem hasE_walk {A : List Nat} (hA : ∀ a, a ∈ A → a < s.length) {x : Nat} (hx : x < s.length) : hasE (fstL [] (A.flatMap (walkD s))) x = true ↔ ∃ a, a ∈ A ∧ Con s a x := by
  have hper := Con.per hs
  rw [hasE_fst]
  constructor
  · rintro (h | ⟨d, hd, e⟩)
    · simp [hasE] at h
    · obtain ⟨a, ha, hm⟩ := List.mem_flatMap.1 hd
      have hc := (mem_walkD hs he (hA a ha)).1 hm
      refine ⟨a, ha, ?_⟩
      rcases half_eq e.symm with k | k
      · rw [k]; exact hc
      · rw [k]; exact hper.trans hc (Con.mate hs he (hper.cod hc))
  · rintro ⟨a, ha, hc⟩
    exact Or.inr ⟨x, List.mem_flatMap.2 ⟨a, ha, (mem_walkD hs he (hA a ha)).2 hc⟩, rfl⟩
/-- the names behind those of the parts that stand ahead -/
theorem can_block {root : Nat} (hr : root < s.length) {A B : List Nat} {r : Nat} (hsp : rootsL s root = A ++ r :: B) :
    ∃ g, at' (canL s root) r = g ∧ (∀ x, x < s.length → (∃ a, a ∈ A ∧ Con s a x) → at' (canL s root) x < g) ∧ (∀ x, x < s.length → ¬ (∃ a, a ∈ A ∧ Con s a x) → g ≤ at' (canL s root) x) := by
  have hper := Con.per hs
  have hlt := rootsL_lt hr
  have hA : ∀ a, a ∈ A → a < s.length := fun a ha => hlt a (by rw [hsp]; exact List.mem_append_left _ ha)
  have hrl : r < s.length := hlt r (by rw [hsp]; simp)
  have hnd : (rootsL s root).Pairwise fun a b => ¬ Con s a b := by
    unfold rootsL
    rw [List.pairwise_cons]
    refine ⟨fun d hd => ((mem_rest hs he hr).1 hd).2.1, ?_⟩
    have h1 : (restTo (partsL s) root s.length).Pairwise (· < ·) := List.pairwise_lt_range.filter _
    refine List.Pairwise.imp_of_mem (fun {a b} ha hb hab hc => ?_) h1
    exact ((mem_rest hs he hr).1 hb).2.2 a hab hc
  rw [hsp, List.pairwise_append] at hnd
  have hno : ¬ ∃ a, a ∈ A ∧ Con s a r := fun ⟨a, ha, hc⟩ => hnd.2.2 a ha r List.mem_cons_self hc
  obtain ⟨G, hG⟩ : ∃ G, fstL [] (A.flatMap (walkD s)) = G := ⟨_, rfl⟩
  have hh : ∀ x, x < s.length → (hasE G x = true ↔ ∃ a, a ∈ A ∧ Con s a x) := fun x hx => by rw [← hG]; exact hasE_walk hs he hA hx
  have hp := (wlen hs he hrl (V := (sizesL s).length) (Nat.le_refl _)).2.1
  obtain ⟨p, hpp⟩ : ∃ p, partC' s r = p + 1 := ⟨partC' s r - 1, by omega⟩
  obtain ⟨l0, hw⟩ : ∃ l0, walkD s r = r :: l0 := by
    unfold walkD
    rw [hpp, List.range_succ_eq_map]
    exact ⟨_, rfl⟩
  have hF : ∃ l, canF s root = G ++ r :: l := by
    unfold canF canD
    rw [if_neg (by omega), hsp, List.flatMap_append, List.flatMap_cons, hw]
    show ∃ l, List.foldl fstAdd [] _ = _
    rw [List.foldl_append]
    show ∃ l, List.foldl fstAdd (fstL [] _) _ = _
    rw [hG]
    show ∃ l, fstL (fstAdd G r) (l0 ++ _) = _
    have e1 : fstAdd G r = G ++ [r] := by unfold fstAdd; rw [if_neg (fun k => hno ((hh r hrl).1 k))]
    rw [e1]
    obtain ⟨l, hl⟩ := fst_ext (l0 ++ B.flatMap (walkD s)) (G ++ [r])
    exact ⟨l, by rw [hl]; simp⟩
  obtain ⟨l, hF⟩ := hF
  have hok := canF_ok hs he hr
  have hall := canF_all hs he hr
  rw [hF] at hok hall
  have hc : ∀ x, x < s.length → at' (canL s root) x = nmF (G ++ r :: l) x := fun x hx => by unfold canL; rw [canP_at hx, hF]
  refine ⟨2 * G.length, ?_, fun x hx ha => ?_, fun x hx ha => ?_⟩
  · rw [hc r hrl]
    have := nm_at hok (i := G.length) (by simp)
    rw [show at' (G ++ r :: l) G.length = r by simp [at', List.getD]] at this
    exact this
  · rw [hc x hx]; exact nm_old hok ((hh x hx).2 ha)
  · rw [hc x hx]; exact nm_new hok (fun k => ha ((hh x hx).1 k)) (hall x hx)
/-- so the canonical map is walked from the same places -/
theorem roots_can {root : Nat} (hr : root < s.length) : rootsL (relL s (canL s root)) (at' (canL s root) root) = (rootsL s root).map (at' (canL s root)) := by
  have ht := canL_perm hs he hr
  have hm := canL_mates hs he hr
  have hl : (canL s root).length = s.length := canP_length _ _
  have hp := relL_perm hs ht hl
  have hrl := relL_length s (canL s root)
  have hb := fun A B r => can_block hs he hr (A := A) (B := B) (r := r)
  obtain ⟨t, htt⟩ : ∃ t, canL s root = t := ⟨_, rfl⟩
  rw [htt] at ht hm hl hp hrl hb ⊢
  have hper := Con.per hs
  have hlt : ∀ x, x < s.length → at' t x < s.length := fun x hx => by have := ht.lt (i := x) (by rw [hl]; exact hx); omega
  have hcr := fun x y (hx : x < s.length) (hy : y < s.length) => con_rel hs he ht hl hm hx hy
  have hmem : ∀ d, d ∈ restTo (partsL s) root s.length ↔ d < s.length ∧ ¬ Con s root d ∧ Least (Con s) d := fun d => mem_rest hs he hr
  have hpw : (restTo (partsL s) root s.length).Pairwise (· < ·) := List.pairwise_lt_range.filter _
  have hrL : rootsL s root = root :: restTo (partsL s) root s.length := rfl
  show _ :: _ = List.map _ (_ :: _)
  rw [List.map_cons]
  congr 1
  obtain ⟨L, hL⟩ : ∃ L, restTo (partsL s) root s.length = L := ⟨_, rfl⟩
  rw [hL] at hmem hpw hrL ⊢
  refine rise_eq _ _ (List.pairwise_lt_range.filter _) ?_ fun y => ?_
  · rw [List.pairwise_map, List.pairwise_iff_getElem]
    intro i j hi hj hij
    have hsp : rootsL s root = (root :: L.take j) ++ L[j] :: L.drop (j + 1) := by
      rw [hrL, List.cons_append]
      congr 1
      rw [← List.drop_eq_getElem_cons hj, List.take_append_drop]
    obtain ⟨g, h1, h2, _⟩ := hb _ _ _ hsp
    rw [h1]
    have hin : L[i] < s.length := ((hmem _).1 (List.getElem_mem _)).1
    refine h2 _ hin ⟨L[i], List.mem_cons_of_mem _ ?_, hper.refl hin⟩
    rw [List.mem_take_iff_getElem]
    exact ⟨i, by omega, rfl⟩
  · rw [mem_rest hp (by rw [hrl]; exact he) (by rw [hrl]; exact hlt root hr), hrl, List.mem_map]
    constructor
    · rintro ⟨h1, h2, h3⟩
      obtain ⟨x, hx, rfl⟩ := ht.surj (y := y) (by rw [hl]; exact h1)
      rw [hl] at hx
      obtain ⟨r, hrm, hc⟩ := rootsL_all hs he hr hx
      have hrm0 := hrm
      rw [hrL] at hrm0
      rcases List.mem_cons.1 hrm0 with rfl | hrm'
      · exact absurd ((hcr _ _ hr hx).1 hc) h2
      · obtain ⟨A, B, hsp⟩ := List.append_of_mem hrm
        obtain ⟨g, k1, k2, k3⟩ := hb A B r hsp
        have hrn := rootsL_lt hr r hrm
        have hnr : ¬ ∃ a, a ∈ A ∧ Con s a x := by
          rintro ⟨a, ha, hca⟩
          have han := rootsL_lt hr a (by rw [hsp]; exact List.mem_append_left _ ha)
          have := k2 r hrn ⟨a, ha, hper.trans hca (hper.symm hc)⟩
          omega
        have hge := k3 x hx hnr
        rcases Nat.lt_or_ge (at' t r) (at' t x) with h4 | h4
        · exact absurd ((hcr _ _ hrn hx).1 hc) (h3 _ h4)
        · exact ⟨r, hrm', by omega⟩
    · rintro ⟨r, hrm, rfl⟩
      obtain ⟨hrn, h2, h3⟩ := (hmem r).1 hrm
      refine ⟨hlt r hrn, fun k => h2 ((hcr _ _ hr hrn).2 k), fun z hz k => ?_⟩
      have hzn : z < s.length := by have := hlt r hrn; omega
      obtain ⟨x, hx, rfl⟩ := ht.surj (y := z) (by rw [hl]; exact hzn)
      rw [hl] at hx
      have hc := (hcr _ _ hx hrn).2 k
      obtain ⟨A, B, hsp⟩ := List.append_of_mem (by rw [hrL]; exact List.mem_cons_of_mem root hrm : r ∈ rootsL s root)
      obtain ⟨g, k1, k2, k3⟩ := hb A B r hsp
      have hnr : ¬ ∃ a, a ∈ A ∧ Con s a x := by
        rintro ⟨a, ha, hca⟩
        have := k2 r hrn ⟨a, ha, hper.trans hca hc⟩
        omega
      have := k3 x hx hnr
      omega
/-- the canonical map's names are its own -/
theorem can_can {root : Nat} (hr : root < s.length) : canL (relL s (canL s root)) 0 = List.range s.length := by
  have ht := canL_perm hs he hr
  have hm := canL_mates hs he hr
  have hl : (canL s root).length = s.length := canP_length _ _
  have hrl := relL_length s (canL s root)
  have hcl : ∀ x r, (canL x r).length = x.length := fun x r => canP_length _ _
  refine eq_at (by rw [hcl, hrl, List.length_range]) fun j hj => ?_
  have hjn : j < s.length := by rw [hcl, hrl] at hj; exact hj
  obtain ⟨d, hd, e⟩ := ht.surj (y := j) (by rw [hl]; exact hjn)
  rw [hl] at hd
  have := canL_rel hs he ht hl hm hr (roots_can hs he hr) hd
  rw [canL_root hs he hr, e] at this
  rw [this]
  simp [at', hjn]
end
theorem invL_range (n : Nat) : ∀ j, j < n → at' (invL (List.range n)) j = j := fun j hj => by
  have h := range_perm n
  have hj' : j < (List.range n).length := by simpa using hj
  have := invL_at h hj'
  rwa [show at' (List.range n) j = j by simp [at', hj]] at this
/-- by their own names -/
theorem rel_range {s : List Nat} (hs : IsPerm s) : relL s (List.range s.length) = s := by
  refine eq_at (relL_length _ _) fun j hj => ?_
  rw [relL_length] at hj
  rw [relL_at hj, invL_range _ j hj]
  have h1 := hs.lt hj
  obtain ⟨y, hy⟩ : ∃ y, at' s j = y := ⟨_, rfl⟩
  rw [hy] at h1 ⊢
  simp [at', h1]

end Go.Proofs.Ytlbhmonpfchocaa

namespace Go.Proofs.Ytlbhmonpfchocaa
set_option linter.unusedVariables false

structure SimV (s : List Nat) (V : Nat) (a b : WSt) : Prop where
  lt : a.d < s.length
  d : b.d = a.d
  ed : b.ed = a.ed
  ml : a.mt.length = (sizesL s).length
  ml' : b.mt.length = V
  mt : ∀ v, v < (sizesL s).length → getB b.mt v = getB a.mt v
section
variable {s : List Nat} (hs : IsPerm s) (he : s.length % 2 = 0) {V : Nat} (hV : (sizesL s).length ≤ V)
include hs he hV
theorem SimV.next {a b : WSt} (h : SimV s V a b) : SimV s V (wnext s a) (wnext s b) := by
  have hxl := xor_one_lt he h.lt
  have hv := vtx_lt hs hxl
  have hk : wkind s b = wkind s a := by
    unfold wkind
    rw [h.d, h.ed, h.mt _ hv]
  refine ⟨?_, ?_, ?_, ?_, ?_, fun v hvl => ?_⟩
  · show wdart s a < s.length
    unfold wdart
    split
    · exact hs.lt hxl
    · exact hs.lt h.lt
  · show wdart s b = wdart s a
    unfold wdart
    rw [hk, h.d]
  · show wed s b = wed s a
    unfold wed
    rw [hk, h.d, h.ed]
  · show (wmt s a).length = _
    unfold wmt; split <;> simp [h.ml]
  · show (wmt s b).length = _
    unfold wmt; split <;> simp [h.ml']
  · show getB (wmt s b) v = getB (wmt s a) v
    unfold wmt
    rw [hk, h.d]
    split
    · rw [getB_set (by rw [h.ml']; omega), getB_set (by rw [h.ml]; exact hv), h.mt v hvl]
    · exact h.mt v hvl
theorem SimV.all {root : Nat} (hr : root < s.length) : ∀ i, SimV s V (wst s (sizesL s).length root i) (wst s V root i)
  | 0 => by
    have hv := vtx_lt hs hr
    refine ⟨hr, rfl, rfl, by simp [wst], by simp [wst], fun v hvl => ?_⟩
    show getB (List.set (List.replicate _ _) _ _) _ = getB (List.set (List.replicate _ _) _ _) _
    rw [getB_set (by rw [List.length_replicate]; omega), getB_set (by rw [List.length_replicate]; exact hv)]
    have hf : ∀ (n i : Nat), getB (List.replicate n false) i = false := fun n i => by
      unfold getB
      by_cases h : i < n <;> simp [h]
    rw [hf, hf]
  | i + 1 => (SimV.all hr i).next hs he hV
theorem wd_V {root : Nat} (hr : root < s.length) (i : Nat) : wd s V root i = wd s (sizesL s).length root i := (SimV.all hs he hV hr i).d
end

/-- as the code finds them, part by part -/
def rootsP (s : List Nat) (f : Int) (i : Nat) : List Nat := ((List.range i).filter fun (k : Nat) => decide ((k : Int) ≠ f ∧ k < partsN s)).map fun (k : Nat) => rootOf (partsL s) (k : Int)
theorem rootsP_succ (s : List Nat) (f : Int) (i : Nat) : rootsP s f (i + 1) = if (i : Int) ≠ f ∧ i < partsN s then rootsP s f i ++ [rootOf (partsL s) (i : Int)] else rootsP s f i := by
  unfold rootsP
  rw [List.range_succ, List.filter_append]
  by_cases h : (i : Int) ≠ f ∧ i < partsN s
  · rw [if_pos h, List.map_append]; simp [h]
  · rw [if_neg h, List.map_append]; simp [h]
theorem rootsP_all {s : List Nat} (hs : IsPerm s) (he : s.length % 2 = 0) {root : Nat} (hr : root < s.length) (l : Nat) : rootsP s (nth (partsL s) root) (partsN s + l) = restTo (partsL s) root s.length := by
  have ho := partsL_ord hs he
  have hcn : (partsGo s s.length).2 = partsN s := rfl
  have hget : ∀ k, k < partsN s → ∃ j, j < s.length ∧ nth (partsL s) j = k ∧ (partsGo s j).2 = k ∧ rootOf (partsL s) (k : Int) = j := fun k hk => by
    obtain ⟨j, hj, h1, h2⟩ := ho.has (Nat.le_refl _) k (by rw [hcn]; exact hk)
    refine ⟨j, hj, h1, h2, rootOf_eq (by rw [ho.len]; exact hj) h1 fun i hi => ?_⟩
    have := ho.first hj (by rw [h1, h2]) i hi
    rwa [h2] at this
  refine rise_eq _ _ ?_ (List.pairwise_lt_range.filter _) fun x => ?_
  · unfold rootsP
    rw [List.pairwise_map]
    refine List.Pairwise.imp_of_mem (fun {a b} ha hb hab => ?_) (List.pairwise_lt_range.filter _)
    have ha := (List.mem_filter.1 ha).2
    have hb := (List.mem_filter.1 hb).2
    simp only [decide_eq_true_eq] at ha hb
    obtain ⟨j, hj, _, h2, h3⟩ := hget a ha.2
    obtain ⟨j', hj', _, h2', h3'⟩ := hget b hb.2
    rw [h3, h3']
    rcases Nat.lt_or_ge j j' with h | h
    · exact h
    · have := ho.mono h (Nat.le_of_lt hj)
      omega
  · rw [mem_rest hs he hr]
    unfold rootsP
    rw [List.mem_map]
    constructor
    · rintro ⟨k, hk, rfl⟩
      have hk := (List.mem_filter.1 hk).2
      simp only [decide_eq_true_eq] at hk
      obtain ⟨j, hj, h1, h2, h3⟩ := hget k hk.2
      rw [h3]
      refine ⟨hj, fun hc => hk.1 ?_, (ho.least hj).2 (by rw [h1, h2])⟩
      rw [← h1]
      exact ((ho.rel _ _ hr hj).2 hc).symm
    · rintro ⟨hx, h1, h2⟩
      have h3 := (ho.least hx).1 h2
      have hb := (ho.bound hx).2
      have hm := ho.mono (k := x + 1) (l := s.length) (by omega) (Nat.le_refl _)
      have hkP : (partsGo s x).2 < partsN s := by rw [← hcn]; omega
      obtain ⟨j, hj, k1, k2, k3⟩ := hget _ hkP
      refine ⟨(partsGo s x).2, List.mem_filter.2 ⟨List.mem_range.2 (by omega), ?_⟩, ?_⟩
      · simp only [decide_eq_true_eq]
        refine ⟨fun e => h1 ((ho.rel _ _ hr hx).1 ?_), hkP⟩
        rw [h3]; exact e.symm
      · refine rootOf_eq (by rw [ho.len]; exact hx) h3 fun i hi => ?_
        have := ho.first hx h3 i hi
        exact this

end Go.Proofs.Ytlbhmonpfchocaa

namespace Go.Proofs.Ytlbhmonpfchocaa
open Go.RowKit
set_option linter.unusedVariables false

/-- one's own row comes back, the registry goes on -/
def RetOwnR (R : Reg) (w : World) (xs : List Int) (e : Ending) (w' : World) : Prop := ∃ v R', e = .returned v ∧ Ev R w R' w' ∧ OwnI R' w.heap.size 3 w' v xs
theorem OwnI.lit {R : Reg} {W : World} {B : Nat} (hI : Inv R W) (hB : B ≤ W.heap.size) (y : Int) : OwnI R B 3 (W.alloc (.cells #[.int .i64 y] 3)) (.slice (some ⟨W.heap.size, 0, none⟩) 1 1) [y] := by
  have h := World.ownsRow_lit (base := B) (e := 3) (size := 1) W #[.int .i64 y] 1 hB (by simp [maxLen]) rfl
  refine ⟨by simpa using h, fun k hk => ?_⟩
  simp only [Value.ownBlock, Option.some.injEq] at hk
  rw [← hk]
  exact hI.none_of_ge (Nat.le_refl _)

theorem roots_none (R : Reg) (w : World) (hI : Inv R w) (p : Value) (s : List Nat) (root lone : Int) (hp : MapAt R p s root lone) (h0 : s.length = 0) :
    Calls Try.prog 75 #[p] w fun e w' => e = .returned (.slice none 0 0) ∧ w = w' := by
  have hd := darts_any R w hI p s root lone hp
  rw [h0] at hd
  have HD := Lib.hid hd
  clear hd hI hp
  go_enter Try.func75, Try.ntmps75
  go_wp2_with fail
  refine HD.out.mono ?_
  rintro e w' ⟨rfl, rfl⟩
  go_wp2_with fail
  go_ret
  exact ⟨rfl, rfl⟩

set_option maxRecDepth 100000 in
set_option maxHeartbeats 2000000 in
theorem roots_some (R : Reg) (w : World) (hI : Inv R w) (p : Value) (s : List Nat) (root lone : Nat) (hp : MapAt R p s (root : Int) lone) (hr : root < s.length) :
    Calls Try.prog 75 #[p] w (RetOwnR R w (toI (rootsL s root))) := by
  obtain ⟨hs, hok⟩ := hp.ok hI
  have he2 : s.length % 2 = 0 := hok.1
  have hn : s.length ≤ 131073 := hok.2.1
  have hlone : lone ≤ 65536 := by have := hok.2.2; omega
  have hpn := partsN_le hs he2
  have HD := Lib.hid (darts_any R w hI p s root lone hp)
  have HNm := Lib.hid (enames_any R w hI p s root lone hp)
  have HRt := Lib.hid (fun R' w' (he : Ev R w R' w') => root_any R' w' he.inv p s root lone (he.map hp))
  have HP := Lib.hid (fun R' w' (he : Ev R w R' w') => eparts_any R' w' he.inv p s root lone (he.map hp))
  have hpl := partsL_length hs he2
  have hall := rootsP_all hs he2 hr lone
  have hcl : partsN s + lone ≤ 300000 := by omega
  have hpr : Hid (∀ i, (partsF s i).root = if i < partsN s then ((rootOf (partsL s) (i : Int) : Nat) : Int) else -1) := Lib.hid (fun i => by
    unfold partsF
    split <;> rfl)
  have hsuc := Lib.hid (rootsP_succ s (nth (partsL s) root))
  have hz := rootsP_succ s (nth (partsL s) root)
  have hle : Hid (∀ i, (rootsP s (nth (partsL s) root) i).length ≤ i) := Lib.hid (fun i => by
    unfold rootsP
    rw [List.length_map]
    have := List.length_filter_le (fun (k : Nat) => decide ((k : Int) ≠ nth (partsL s) root ∧ k < partsN s)) (List.range i)
    rwa [List.length_range] at this)
  have hr0 : Hid (rootsP s (nth (partsL s) root) 0 = []) := Lib.hid rfl
  have HA := Lib.hid (show rootsL s root = root :: rootsP s (nth (partsL s) root) (partsN s + lone) by rw [hall]; rfl)
  obtain ⟨n, hln⟩ : ∃ n, s.length = n := ⟨_, rfl⟩
  rw [hln] at HD hr hpl
  obtain ⟨C, hC⟩ : ∃ C, partsN s + lone = C := ⟨_, rfl⟩
  rw [hC] at HP HA hcl
  obtain ⟨f, hf⟩ : ∃ f, nth (partsL s) root = f := ⟨_, rfl⟩
  rw [hf] at hsuc hle hr0 HA
  have hnb : ((n : Int) == 0) = false := by simp; omega
  have HPl := Lib.hid hpl
  have HF := Lib.hid hf
  clear hI hp hs hok hpl hall hz hln hC hf he2 hn hlone hpn
  go_enter Try.func75, Try.ntmps75
  go_wp2_with fail
  refine HD.out.mono ?_
  rintro e w' ⟨rfl, rfl⟩
  go_wp2_with fail
  refine HNm.out.mono ?_
  rintro e w1 ⟨v1, rfl, he1, ho1⟩
  obtain ⟨a1, c1, rfl, _⟩ := ho1.ints.open
  rw [HPl.out] at ho1 ⊢
  obtain ⟨g1, rfl, _, _, k0, _⟩ := ho1.headAt HPl.out hr
  rw [HF.out] at k0
  have HE1 := Lib.hid he1
  clear he1 ho1 HNm
  go_wp2_with fail
  refine (HRt.out _ _ HE1.out).mono ?_
  rintro e w' ⟨rfl, rfl⟩
  go_wp2_with fail
  refine (HRt.out _ _ HE1.out).mono ?_
  rintro e w' ⟨rfl, rfl⟩
  have HE2 := Lib.hid (HE1.out.alloc (.cells #[.int .i64 (root : Int)] 3))
  have HO2 := Lib.hid (OwnI.lit (B := w.heap.size) HE1.out.inv HE1.out.size (root : Int))
  clear k0
  go_wp2_with fail
  refine (HP.out _ _ HE2.out).mono ?_
  rintro e w3 ⟨v3, R3, rfl, he3, a3, c3, rfl, ho3⟩
  have HE3 := Lib.hid (HE2.out.trans he3)
  have HO3 := Lib.hid ho3
  have HO2 := Lib.hid (HO2.out.ev he3)
  clear he3 ho3
  go_wp2_with fail
  go_loopg [5, 24] C (fun gg v5 v24 wr => ∃ (i : Nat) (a : Option Addr) (l c : Nat), i ≤ C ∧ C - i ≤ gg ∧ v24 = .int .i64 (i : Int) ∧ v5 = .slice a l c ∧ l = (rootsP s f i).length + 1 ∧ Ev R w R3 wr ∧ OwnI R3 w.heap.size 3 wr (.slice a l c) (toI (root :: rootsP s f i)) ∧ OwnV R3 (w1.alloc (.cells #[.int .i64 (root : Int)] 3)).heap.size 124 5 wr (.slice a3 C c3) C (flatF (partsF s) C) ∧ ∀ k, (Value.slice a l c).ownBlock = some k → (Value.slice a3 C c3).ownBlock ≠ some k)
  case atStart =>
    refine ⟨0, _, 1, 1, by omega, by omega, rfl, rfl, by rw [hr0.out]; rfl, HE3.out, by rw [hr0.out]; exact HO2.out, HO3.out, fun k hk h => ?_⟩
    have h1 := (HO3.out.lt k h).1
    simp [Value.ownBlock] at hk h1
    omega
  case round =>
    obtain ⟨i, a, l, c, hi, hg, rfl, rfl, hl, hev, ho, hv, hd⟩ := hrel
    have HEv := Lib.hid hev
    have HO := Lib.hid ho
    have HV := Lib.hid hv
    have HDs := Lib.hid hd
    have HL := Lib.hid hl
    clear hev ho hv hd hl
    by_cases hil : i < C
    · have hfr := hpr.out i
      have hsu := hsuc.out i
      have hlb := hle.out i
      obtain ⟨gb, e1, _, _, d0, _⟩ := HV.out.headAt (i := i * 5) (by rw [flatF_length]; omega)
      subst e1
      obtain ⟨_, e1, _, _, d1, _⟩ := HV.out.headAt (i := i * 5 + 1) (by rw [flatF_length]; omega)
      cases e1
      obtain ⟨_, e1, _, _, d2, _⟩ := HV.out.headAt (i := i * 5 + 2) (by rw [flatF_length]; omega)
      cases e1
      obtain ⟨_, e1, _, _, d3, _⟩ := HV.out.headAt (i := i * 5 + 3) (by rw [flatF_length]; omega)
      cases e1
      obtain ⟨_, e1, _, _, d4, _⟩ := HV.out.headAt (i := i * 5 + 4) (by rw [flatF_length]; omega)
      cases e1
      have dd0 := d0.trans (flatF_get (f := partsF s) (k := i) (c := 0) (by omega) hil)
      clear d0
      rw [flatF_get (by omega) hil] at d1 d2 d3 d4
      obtain ⟨P, hP⟩ : ∃ P, partsF s i = P := ⟨_, rfl⟩
      rw [hP] at dd0 d1 d2 d3 d4 hfr
      obtain ⟨pr, pv, pe, pb, pg⟩ := P
      have k0 : wr.cell? ⟨gb, i * 5, none⟩ = some (.int .i64 pr) := dd0
      have k1 : wr.cell? ⟨gb, i * 5 + 1, none⟩ = some (.int .i64 pv) := d1
      have k2 : wr.cell? ⟨gb, i * 5 + 2, none⟩ = some (.int .i64 pe) := d2
      have k3 : wr.cell? ⟨gb, i * 5 + 3, none⟩ = some (.int .i64 pb) := d3
      have k4 : wr.cell? ⟨gb, i * 5 + 4, none⟩ = some (.int .i64 pg) := d4
      have hfq : pr = if i < partsN s then ((rootOf (partsL s) (i : Int) : Nat) : Int) else -1 := hfr
      clear hfr dd0 d1 d2 d3 d4 hP
      have HEa := Lib.hid (HEv.out.alloc (.cells #[.int .i64 pr, .int .i64 pv, .int .i64 pe, .int .i64 pb, .int .i64 pg] 124))
      have HOa := Lib.hid (HO.out.alloc (.cells #[.int .i64 pr, .int .i64 pv, .int .i64 pe, .int .i64 pb, .int .i64 pg] 124))
      have HVa := Lib.hid (HV.out.alloc (.cells #[.int .i64 pr, .int .i64 pv, .int .i64 pe, .int .i64 pb, .int .i64 pg] 124))
      by_cases hif : (i : Int) = f
      · have hb1 : ((i : Int) != f) = false := by simp [hif]
        rw [if_neg (fun k => k.1 hif)] at hsu
        have HSu := Lib.hid hsu
        clear hsu hif hfq
        go_wp2_with fail
        go_roundg (C - (i + 1))
        case measure => omega
        case rel => exact ⟨i + 1, a, l, c, by omega, by omega, by go_num, rfl, by rw [HSu.out]; exact HL.out, HEa.out, by rw [HSu.out]; exact HOa.out, HVa.out, HDs.out⟩
      · have hb1 : ((i : Int) != f) = true := by simp [hif]
        by_cases hip : i < partsN s
        · rw [if_pos hip] at hfq
          rw [if_pos ⟨hif, hip⟩] at hsu
          obtain ⟨q, hq⟩ : ∃ q, rootOf (partsL s) (i : Int) = q := ⟨_, rfl⟩
          rw [hq] at hfq hsu
          subst hfq
          have HSu := Lib.hid hsu
          have hb2 : decide ((0 : Int) ≤ (q : Int)) = true := by simp
          clear hsu hif hq hip
          have HEb := Lib.hid (HEa.out.alloc (.cells #[.int .i64 (q : Int)] 3))
          have HOb := Lib.hid (HOa.out.alloc (.cells #[.int .i64 (q : Int)] 3))
          have HVb := Lib.hid (HVa.out.alloc (.cells #[.int .i64 (q : Int)] 3))
          have hLl : Hid ((toI (root :: rootsP s f i)).length = l) := Lib.hid (by rw [toI_length, List.length_cons, HL.out])
          go_wp2_with (at_builtin; refine wpList_app_int (R := R3) (B := w.heap.size) rfl _ _ rfl HOb.out rfl ⟨wr.heap.size + 1, 0, none⟩ 1 (q : Int) ?a0 ?a1 ?a2 ?a3 ?a4 ?_)
          case a0 => first | rfl | simp
          case a1 => first | rfl | simp
          case a2 => have := hLl.out; have := HL.out; omega
          case a3 => have := HEb.out.size; first | exact this | (simp at this ⊢; omega)
          case a4 => exact fun q hq => HEb.out.inv.none_of_ge (by first | exact hq | (simp at hq ⊢; omega))
          intro v8 w8 ho8 hg8 hs8
          obtain ⟨a8, c8, rfl, _⟩ := ho8.ints.open
          have hl8 : (toI (root :: rootsP s f i) ++ [(q : Int)]).length = l + 1 := by rw [List.length_append, hLl.out]; rfl
          have hx8 : toI (root :: rootsP s f i) ++ [(q : Int)] = toI (root :: rootsP s f (i + 1)) := by rw [HSu.out]; simp [toI]
          rw [hl8] at ho8 hs8 ⊢
          rw [hx8] at ho8
          have HE8 := Lib.hid (HEb.out.app HOb.out (Nat.le_refl _) hg8)
          have HO8 := Lib.hid ho8
          have HV8 := Lib.hid (HVb.out.kept hg8 (dis_neI (u := .slice a l c) HDs.out))
          have HD8 : Hid (∀ k, (Value.slice a8 (l + 1) c8).ownBlock = some k → (Value.slice (some ⟨gb, 0, none⟩) C c3).ownBlock ≠ some k) := Lib.hid fun k hk h => by
            rcases hs8 k hk with h1 | h1
            · exact HDs.out k h1 h
            · have h2 := (HVb.out.lt k h).2
              simp at h1 h2
              omega
          clear ho8 hg8 hs8 hl8 hx8
          go_wp2_with fail
          go_roundg (C - (i + 1))
          case measure => omega
          case rel => exact ⟨i + 1, a8, l + 1, c8, by omega, by omega, by go_num, rfl, by rw [HSu.out, List.length_append, List.length_singleton, HL.out], HE8.out, HO8.out, HV8.out, HD8.out⟩
        · rw [if_neg hip] at hfq
          rw [if_neg (fun k => hip k.2)] at hsu
          subst hfq
          have HSu := Lib.hid hsu
          have hb2 : decide ((0 : Int) ≤ -1) = false := by decide
          clear hsu hif hip
          go_wp2_with fail
          go_roundg (C - (i + 1))
          case measure => omega
          case rel => exact ⟨i + 1, a, l, c, by omega, by omega, by go_num, rfl, by rw [HSu.out]; exact HL.out, HEa.out, by rw [HSu.out]; exact HOa.out, HVa.out, HDs.out⟩
    · obtain rfl : i = C := by omega
      go_wp2_with fail
      go_ret
      exact ⟨_, R3, rfl, HEv.out, by rw [HA.out]; exact HO.out⟩

end Go.Proofs.Ytlbhmonpfchocaa

namespace Go.Proofs.Ytlbhmonpfchocaa
open Go.RowKit
set_option linter.unusedVariables false


theorem Ev.regPerm {R R1 : Reg} {w w1 : World} {B b : Nat} {E T : TypeId} {v : Value} {S : List Nat} (he : Ev R w R1 w1) (hB : w.heap.size ≤ B) (ho : OwnI R1 B E w1 v (toI S)) (hS : IsPerm S) (hn : S.length ≤ 4194304)
    (hb : w1.heap[b]? = some (.cells #[v, .int .u32 0, .int .i32 0, .int .u32 0, .slice none 0 0] T (0, 0))) (hbw : w.heap.size ≤ b) (hbn : R1 b = none) (hd : v.ownBlock ≠ some b) :
    ∃ R2, Ev R w R2 w1 ∧ PermAt R2 (.pointer (some ⟨b, 0, none⟩)) S := by
  obtain ⟨R2, he2, hf, hk, hn2⟩ := ho.fix he hB
  exact ⟨R2.put b (.inr (.inl S)), he2.put _ hbw (hn2 b hbn hd) ⟨hS, hn, v, T, 0, nilS, hb, hf, Or.inl ⟨rfl, rfl⟩⟩, b, rfl, Reg.put_same _ _ _⟩

def RetPm (R : Reg) (w : World) (S : List Nat) (e : Ending) (w' : World) : Prop :=
  ∃ p R', e = .returned p ∧ Ev R w R' w' ∧ PermAt R' p S

end Go.Proofs.Ytlbhmonpfchocaa

namespace Go.Proofs.Ytlbhmonpfchocaa
open Go.RowKit
set_option linter.unusedVariables false

set_option maxRecDepth 100000 in
theorem relabel_len (R : Reg) (w : World) (hI : Inv R w) (p q : Value) (s t : List Nat) (root lone : Int) (hp : MapAt R p s root lone) (hq : PermAt R q t) (hl : t.length ≠ s.length) :
    Calls Try.prog 79 #[p, q] w fun e w' => e = .returned (.tuple #[.pointer none, .int .i64 1]) ∧ w = w' := by
  have HD := Lib.hid (darts_any R w hI p s root lone hp)
  have HL := Lib.hid (len_any R w hI q t hq)
  obtain ⟨b, rfl, _⟩ := hp
  obtain ⟨c, rfl, _⟩ := hq
  have hb : ((t.length : Int) != (s.length : Int)) = true := by simp; omega
  clear hI
  go_enter Try.func79, Try.ntmps79
  go_wp2_with fail
  refine HL.out.mono ?_
  rintro e w' ⟨rfl, rfl⟩
  go_wp2_with fail
  refine HD.out.mono ?_
  rintro e w' ⟨rfl, rfl⟩
  go_wp2_with fail
  go_ret2
  exact ⟨rfl, rfl⟩

set_option maxRecDepth 100000 in
set_option maxHeartbeats 4000000 in
theorem relabel_yes (R : Reg) (w : World) (hI : Inv R w) (p q : Value) (s t : List Nat) (root lone : Int) (hp : MapAt R p s root lone) (hq : PermAt R q t) (ht : IsPerm t) (hl : t.length = s.length) (hm : Mates t) :
    Calls Try.prog 79 #[p, q] w (NewYes R w (relL s t) (atI t root) lone) := by
  obtain ⟨hS, hok⟩ := hp.ok hI
  have hn0 := hok.2.1
  have hev := hok.1
  have HDt := Lib.hid (fun R' w' (he : Ev R w R' w') => darts_any R' w' he.inv p s root lone (he.map hp))
  have HRt := Lib.hid (fun R' w' (he : Ev R w R' w') => root_any R' w' he.inv p s root lone (he.map hp))
  have HLn := Lib.hid (fun R' w' (he : Ev R w R' w') => lone_any R' w' he.inv p s root lone (he.map hp))
  have HSg := Lib.hid (fun R' w' (he : Ev R w R' w') (d : Nat) (hd : d < s.length) => (by
    have := sigma_any R' w' he.inv p s root lone (he.map hp) (d : Int)
    rw [atI_in hd] at this
    exact this : Calls Try.prog 55 #[p, .int .i64 (d : Int)] w' _))
  have HQl := Lib.hid (fun R' w' (he : Ev R w R' w') => len_any R' w' he.inv q t (he.perm hq))
  have HQr := Lib.hid (fun R' w' (he : Ev R w R' w') => at_any R' w' he.inv q t (he.perm hq) root)
  have HQa := Lib.hid (fun R' w' (he : Ev R w R' w') (d : Nat) (hd : d < s.length) => (by
    have := at_any R' w' he.inv q t (he.perm hq) (d : Int)
    rw [atI_in (by rw [hl]; exact hd)] at this
    exact this : Calls Try.prog 34 #[q, .int .i64 (d : Int)] w' _))
  have HMt := Lib.hid hm
  have HAl := Lib.hid (relGo_all ht hl)
  have HSt := Lib.hid (fun i (hi : i < s.length) => relGo_set ht hl hi)
  have HSl := Lib.hid (fun i (hi : i < s.length) => hS.lt hi)
  have HTl := Lib.hid (fun i (hi : i < s.length) => (by have := ht.lt (i := i) (by rw [hl]; exact hi); omega : at' t i < s.length))
  have HNy := Lib.hid (fun R' w' (hI' : Inv R' w') v (hv : FreeI R' w' v (toI (relL s t))) => new_yes R' w' hI' v (relL s t) hv (atI t root) lone (relL_perm hS ht hl) (relRoot hok ht hl))
  have HRl := Lib.hid (fun i => relGo_length s t i)
  have HRz := Lib.hid (relGo_zero s t)
  have HI := Lib.hid hI
  obtain ⟨b, rfl, _⟩ := hp
  obtain ⟨c, rfl, _⟩ := hq
  obtain ⟨n, hln⟩ : ∃ n, s.length = n := ⟨_, rfl⟩
  have HTn := Lib.hid (hl.trans hln)
  rw [hl] at HQl
  rw [hln] at HDt HSg HQl HQa HAl HSt HSl HTl HRl HRz hn0 hev
  obtain ⟨i0, hi, hz0, hz1, hz2⟩ := info_parts int_info
  have hbn : ((n : Int) != (n : Int)) = false := by simp
  clear hI hS hok ht hl hm hln
  go_enter Try.func79, Try.ntmps79
  go_wp2_with fail
  refine (HQl.out _ _ (Ev.refl HI.out)).mono ?_
  rintro e w' ⟨rfl, rfl⟩
  go_wp2_with fail
  refine (HDt.out _ _ (Ev.refl HI.out)).mono ?_
  rintro e w' ⟨rfl, rfl⟩
  go_wp2_with (first | (go_at_call 44; refine (HDt.out _ _ (Ev.refl HI.out)).mono ?_; rintro e w' ⟨rfl, rfl⟩) | (refine wpList_make_full _ rfl _ _ 32 rfl w.heap.size 3 i0 (.int .i64 0) 1 Try.underlying32 hi hz0 hz1 .i64 .i64 (n : Int) (n : Int) n rfl rfl rfl rfl ?q1 ?q2 (Nat.le_refl _) ?_))
  case q1 => rw [hz2]; omega
  case q2 => unfold maxLen; omega
  intro w1 ho1 hg1
  have hown : OwnI R w.heap.size 3 w1 (.slice (some ⟨w.heap.size, 0, none⟩) n n) (relGo s t 0) := by rw [HRz.out]; exact OwnI.made HI.out ho1
  have he1 : Ev R w R w1 := (Ev.refl HI.out).grown hg1 (by simp)
  have HO1 := Lib.hid hown
  have HE1 := Lib.hid he1
  clear ho1 hg1 hown he1
  go_wp2_with fail
  obtain ⟨g6, hg6⟩ : ∃ g, w.heap.size = g := ⟨_, rfl⟩
  rw [hg6] at HO1 ⊢
  have HG6 := Lib.hid hg6
  go_loopg [26] n (fun g v26 wr => ∃ (i : Nat), i ≤ n ∧ n - i ≤ g ∧ v26 = .int .i64 (i : Int) ∧ Ev R w R wr ∧ OwnI R g6 3 wr (.slice (some ⟨g6, 0, none⟩) n n) (relGo s t i) ∧ ∀ d, d < i → at' t (d ^^^ 1) = at' t d ^^^ 1)
  case atStart => exact ⟨0, Nat.zero_le _, by omega, rfl, HE1.out, HO1.out, fun d hd => by omega⟩
  case round =>
    obtain ⟨i, hin, hg, rfl, he, ho, hall⟩ := hrel
    have HE := Lib.hid he
    have HO := Lib.hid ho
    have HAa := Lib.hid hall
    clear he ho hall
    by_cases hil : i < n
    · have hx1 := xor_one_lt hev hil
      have hxor : bits .xor .i64 (i : Int) 1 = ((i ^^^ 1 : Nat) : Int) := xor_one_i64 (by omega)
      have h1 := HTl.out i hil
      have h2 := HTl.out (i ^^^ 1) hx1
      have HA1 := Lib.hid (HQa.out R wr HE.out i hil)
      have HA2 := Lib.hid (HQa.out R wr HE.out (i ^^^ 1) hx1)
      obtain ⟨j, hj⟩ : ∃ j, i ^^^ 1 = j := ⟨_, rfl⟩
      have HJ := Lib.hid hj
      rw [hj] at hxor HA2 h2 hx1
      obtain ⟨ti, hti⟩ : ∃ k, at' t i = k := ⟨_, rfl⟩
      obtain ⟨tj, htj⟩ : ∃ k, at' t j = k := ⟨_, rfl⟩
      have HTi := Lib.hid hti
      have HTj := Lib.hid htj
      rw [hti] at HA1 h1
      rw [htj] at HA2 h2
      have hxor2 : bits .xor .i64 (ti : Int) 1 = ((ti ^^^ 1 : Nat) : Int) := xor_one_i64 (by omega)
      obtain ⟨tm, htm⟩ : ∃ j, ti ^^^ 1 = j := ⟨_, rfl⟩
      have HTm := Lib.hid htm
      rw [htm] at hxor2
      clear hj hti htj htm
      by_cases hmm : tj = tm
      · have hbm : ((tj : Int) != (tm : Int)) = false := by rw [hmm]; simp
        have hsl := HSl.out i hil
        have HSg1 := Lib.hid (HSg.out R wr HE.out i hil)
        have HA3 := Lib.hid (HQa.out R wr HE.out (at' s i) hsl)
        have hst := HSt.out i hil
        rw [HTi.out] at hst
        obtain ⟨si, hsi⟩ : ∃ k, at' s i = k := ⟨_, rfl⟩
        rw [hsi] at HSg1 HA3 hst
        obtain ⟨y, hy⟩ : ∃ k, at' t si = k := ⟨_, rfl⟩
        rw [hy] at HA3 hst
        have HSt2 := Lib.hid hst
        obtain ⟨_, e6, hB6, hR6, hc6, hz6⟩ := HO.out.headAt (HRl.out i) h1
        cases e6
        have hput := HO.out.put (HRl.out i) ti h1 ((y : Nat) : Int)
        rw [HSt2.out] at hput
        have HPut := Lib.hid hput
        clear hst hsi hy hput hmm
        go_wp2_with fail
        refine HA2.out.mono ?_
        rintro e w' ⟨rfl, rfl⟩
        go_wp2_with fail
        refine HA1.out.mono ?_
        rintro e w' ⟨rfl, rfl⟩
        go_wp2_with fail
        refine HA1.out.mono ?_
        rintro e w' ⟨rfl, rfl⟩
        go_wp2_with fail
        refine HSg1.out.mono ?_
        rintro e w' ⟨rfl, rfl⟩
        go_wp2_with fail
        refine HA3.out.mono ?_
        rintro e w' ⟨rfl, rfl⟩
        go_wp2_with fail
        go_roundg (n - (i + 1))
        case measure => omega
        case rel => exact ⟨i + 1, by omega, by omega, by go_num, HE.out.setCell (by show w.heap.size ≤ g6; rw [HG6.out]; exact Nat.le_refl _) hR6 _, HPut.out, fun d hd => by
          by_cases e : d = i
          · subst e
            rw [HJ.out, HTj.out, HTi.out, HTm.out]
            have h9 := hbm
            simp at h9
            omega
          · exact HAa.out d (by omega)⟩
      · exfalso
        have := HMt.out i (by rw [HTn.out]; exact hil)
        rw [HJ.out, HTj.out, HTi.out, HTm.out] at this
        exact hmm this
    · obtain rfl : i = n := by omega
      have ho := HO.out
      rw [HAl.out] at ho
      have HOf := Lib.hid ho.free
      have HNw := Lib.hid (HNy.out R wr HE.out.inv _ HOf.out)
      clear ho
      go_wp2_with fail
      refine (HRt.out _ _ HE.out).mono ?_
      rintro e w' ⟨rfl, rfl⟩
      go_wp2_with fail
      refine (HQr.out _ _ HE.out).mono ?_
      rintro e w' ⟨rfl, rfl⟩
      go_wp2_with fail
      refine (HLn.out _ _ HE.out).mono ?_
      rintro e w' ⟨rfl, rfl⟩
      go_wp2_with fail
      refine HNw.out.mono ?_
      rintro e w5 ⟨q, R5, rfl, he5, hq5⟩
      have HE5 := Lib.hid (HE.out.trans he5)
      have HQ5 := Lib.hid hq5
      clear he5 hq5
      go_wp2_with fail
      go_ret2
      exact ⟨_, R5, rfl, HE5.out, HQ5.out⟩

set_option maxRecDepth 100000 in
set_option maxHeartbeats 4000000 in
theorem relabel_no (R : Reg) (w : World) (hI : Inv R w) (p q : Value) (s t : List Nat) (root lone : Int) (hp : MapAt R p s root lone) (hq : PermAt R q t) (ht : IsPerm t) (hl : t.length = s.length) (hm : ¬ Mates t) :
    Calls Try.prog 79 #[p, q] w (fun e w' => e = .returned (.tuple #[.pointer none, .int .i64 4]) ∧ Ev R w R w') := by
  obtain ⟨hS, hok⟩ := hp.ok hI
  have hn0 := hok.2.1
  have hev := hok.1
  have HDt := Lib.hid (fun R' w' (he : Ev R w R' w') => darts_any R' w' he.inv p s root lone (he.map hp))
  have HRt := Lib.hid (fun R' w' (he : Ev R w R' w') => root_any R' w' he.inv p s root lone (he.map hp))
  have HLn := Lib.hid (fun R' w' (he : Ev R w R' w') => lone_any R' w' he.inv p s root lone (he.map hp))
  have HSg := Lib.hid (fun R' w' (he : Ev R w R' w') (d : Nat) (hd : d < s.length) => (by
    have := sigma_any R' w' he.inv p s root lone (he.map hp) (d : Int)
    rw [atI_in hd] at this
    exact this : Calls Try.prog 55 #[p, .int .i64 (d : Int)] w' _))
  have HQl := Lib.hid (fun R' w' (he : Ev R w R' w') => len_any R' w' he.inv q t (he.perm hq))
  have HQr := Lib.hid (fun R' w' (he : Ev R w R' w') => at_any R' w' he.inv q t (he.perm hq) root)
  have HQa := Lib.hid (fun R' w' (he : Ev R w R' w') (d : Nat) (hd : d < s.length) => (by
    have := at_any R' w' he.inv q t (he.perm hq) (d : Int)
    rw [atI_in (by rw [hl]; exact hd)] at this
    exact this : Calls Try.prog 34 #[q, .int .i64 (d : Int)] w' _))
  have HMt := Lib.hid hm
  have HAl := Lib.hid (relGo_all ht hl)
  have HSt := Lib.hid (fun i (hi : i < s.length) => relGo_set ht hl hi)
  have HSl := Lib.hid (fun i (hi : i < s.length) => hS.lt hi)
  have HTl := Lib.hid (fun i (hi : i < s.length) => (by have := ht.lt (i := i) (by rw [hl]; exact hi); omega : at' t i < s.length))
  have HNy := Lib.hid (fun R' w' (hI' : Inv R' w') v (hv : FreeI R' w' v (toI (relL s t))) => new_yes R' w' hI' v (relL s t) hv (atI t root) lone (relL_perm hS ht hl) (relRoot hok ht hl))
  have HRl := Lib.hid (fun i => relGo_length s t i)
  have HRz := Lib.hid (relGo_zero s t)
  have HI := Lib.hid hI
  obtain ⟨b, rfl, _⟩ := hp
  obtain ⟨c, rfl, _⟩ := hq
  obtain ⟨n, hln⟩ : ∃ n, s.length = n := ⟨_, rfl⟩
  have HTn := Lib.hid (hl.trans hln)
  rw [hl] at HQl
  rw [hln] at HDt HSg HQl HQa HAl HSt HSl HTl HRl HRz hn0 hev
  obtain ⟨i0, hi, hz0, hz1, hz2⟩ := info_parts int_info
  have hbn : ((n : Int) != (n : Int)) = false := by simp
  clear hI hS hok ht hl hm hln
  go_enter Try.func79, Try.ntmps79
  go_wp2_with fail
  refine (HQl.out _ _ (Ev.refl HI.out)).mono ?_
  rintro e w' ⟨rfl, rfl⟩
  go_wp2_with fail
  refine (HDt.out _ _ (Ev.refl HI.out)).mono ?_
  rintro e w' ⟨rfl, rfl⟩
  go_wp2_with (first | (go_at_call 44; refine (HDt.out _ _ (Ev.refl HI.out)).mono ?_; rintro e w' ⟨rfl, rfl⟩) | (refine wpList_make_full _ rfl _ _ 32 rfl w.heap.size 3 i0 (.int .i64 0) 1 Try.underlying32 hi hz0 hz1 .i64 .i64 (n : Int) (n : Int) n rfl rfl rfl rfl ?q1 ?q2 (Nat.le_refl _) ?_))
  case q1 => rw [hz2]; omega
  case q2 => unfold maxLen; omega
  intro w1 ho1 hg1
  have hown : OwnI R w.heap.size 3 w1 (.slice (some ⟨w.heap.size, 0, none⟩) n n) (relGo s t 0) := by rw [HRz.out]; exact OwnI.made HI.out ho1
  have he1 : Ev R w R w1 := (Ev.refl HI.out).grown hg1 (by simp)
  have HO1 := Lib.hid hown
  have HE1 := Lib.hid he1
  clear ho1 hg1 hown he1
  go_wp2_with fail
  obtain ⟨g6, hg6⟩ : ∃ g, w.heap.size = g := ⟨_, rfl⟩
  rw [hg6] at HO1 ⊢
  have HG6 := Lib.hid hg6
  go_loopg [26] n (fun g v26 wr => ∃ (i : Nat), i ≤ n ∧ n - i ≤ g ∧ v26 = .int .i64 (i : Int) ∧ Ev R w R wr ∧ OwnI R g6 3 wr (.slice (some ⟨g6, 0, none⟩) n n) (relGo s t i) ∧ ∀ d, d < i → at' t (d ^^^ 1) = at' t d ^^^ 1)
  case atStart => exact ⟨0, Nat.zero_le _, by omega, rfl, HE1.out, HO1.out, fun d hd => by omega⟩
  case round =>
    obtain ⟨i, hin, hg, rfl, he, ho, hall⟩ := hrel
    have HE := Lib.hid he
    have HO := Lib.hid ho
    have HAa := Lib.hid hall
    clear he ho hall
    by_cases hil : i < n
    · have hx1 := xor_one_lt hev hil
      have hxor : bits .xor .i64 (i : Int) 1 = ((i ^^^ 1 : Nat) : Int) := xor_one_i64 (by omega)
      have h1 := HTl.out i hil
      have h2 := HTl.out (i ^^^ 1) hx1
      have HA1 := Lib.hid (HQa.out R wr HE.out i hil)
      have HA2 := Lib.hid (HQa.out R wr HE.out (i ^^^ 1) hx1)
      obtain ⟨j, hj⟩ : ∃ j, i ^^^ 1 = j := ⟨_, rfl⟩
      have HJ := Lib.hid hj
      rw [hj] at hxor HA2 h2 hx1
      obtain ⟨ti, hti⟩ : ∃ k, at' t i = k := ⟨_, rfl⟩
      obtain ⟨tj, htj⟩ : ∃ k, at' t j = k := ⟨_, rfl⟩
      have HTi := Lib.hid hti
      have HTj := Lib.hid htj
      rw [hti] at HA1 h1
      rw [htj] at HA2 h2
      have hxor2 : bits .xor .i64 (ti : Int) 1 = ((ti ^^^ 1 : Nat) : Int) := xor_one_i64 (by omega)
      obtain ⟨tm, htm⟩ : ∃ j, ti ^^^ 1 = j := ⟨_, rfl⟩
      have HTm := Lib.hid htm
      rw [htm] at hxor2
      clear hj hti htj htm
      by_cases hmm : tj = tm
      · have hbm : ((tj : Int) != (tm : Int)) = false := by rw [hmm]; simp
        have hsl := HSl.out i hil
        have HSg1 := Lib.hid (HSg.out R wr HE.out i hil)
        have HA3 := Lib.hid (HQa.out R wr HE.out (at' s i) hsl)
        have hst := HSt.out i hil
        rw [HTi.out] at hst
        obtain ⟨si, hsi⟩ : ∃ k, at' s i = k := ⟨_, rfl⟩
        rw [hsi] at HSg1 HA3 hst
        obtain ⟨y, hy⟩ : ∃ k, at' t si = k := ⟨_, rfl⟩
        rw [hy] at HA3 hst
        have HSt2 := Lib.hid hst
        obtain ⟨_, e6, hB6, hR6, hc6, hz6⟩ := HO.out.headAt (HRl.out i) h1
        cases e6
        have hput := HO.out.put (HRl.out i) ti h1 ((y : Nat) : Int)
        rw [HSt2.out] at hput
        have HPut := Lib.hid hput
        clear hst hsi hy hput hmm
        go_wp2_with fail
        refine HA2.out.mono ?_
        rintro e w' ⟨rfl, rfl⟩
        go_wp2_with fail
        refine HA1.out.mono ?_
        rintro e w' ⟨rfl, rfl⟩
        go_wp2_with fail
        refine HA1.out.mono ?_
        rintro e w' ⟨rfl, rfl⟩
        go_wp2_with fail
        refine HSg1.out.mono ?_
        rintro e w' ⟨rfl, rfl⟩
        go_wp2_with fail
        refine HA3.out.mono ?_
        rintro e w' ⟨rfl, rfl⟩
        go_wp2_with fail
        go_roundg (n - (i + 1))
        case measure => omega
        case rel => exact ⟨i + 1, by omega, by omega, by go_num, HE.out.setCell (by show w.heap.size ≤ g6; rw [HG6.out]; exact Nat.le_refl _) hR6 _, HPut.out, fun d hd => by
          by_cases e : d = i
          · subst e
            rw [HJ.out, HTj.out, HTi.out, HTm.out]
            have h9 := hbm
            simp at h9
            omega
          · exact HAa.out d (by omega)⟩
      · have hbm : ((tj : Int) != (tm : Int)) = true := by simp; omega
        clear hmm
        go_wp2_with fail
        refine HA2.out.mono ?_
        rintro e w' ⟨rfl, rfl⟩
        go_wp2_with fail
        refine HA1.out.mono ?_
        rintro e w' ⟨rfl, rfl⟩
        go_wp2_with fail
        go_ret2
        exact ⟨rfl, HE.out⟩
    · obtain rfl : i = n := by omega
      exact absurd (fun d hd => HAa.out d (by rw [HTn.out] at hd; exact hd)) HMt.out

end Go.Proofs.Ytlbhmonpfchocaa
