/- Names of edges, and flips, as names of darts; named back. Conditions: none. Canonical names: the darts that are met first, edge by edge, have the even names. Conditions: none. The walk, and so the canonical names, by other names. Conditions: none. The canonical map's canonical names are its own. Conditions: none. The walk doesn't hang on how many places there are for vertices; where the parts are walked from. Conditions: none. -/
import Derived.Test.YtklkgicjfnbndaaGreatZScriptNames30
import Derived.Test.YtklkgicjfnbndaaGreatZScriptNames19
namespace Go.Proofs.YtklkgicjfnbndaaGreat
set_option linter.unusedVariables false

/-- a dart's name, by its edge's and whether it is flipped -/
def lblN (M : List Nat) (fb : Nat → Bool) (d : Nat) : Nat := if fb (d / 2) = true then (2 * at' M (d / 2) + d % 2) ^^^ 1 else 2 * at' M (d / 2) + d % 2
def lblL (M : List Nat) (fb : Nat → Bool) (i : Nat) : List Nat := (List.range (2 * i)).map (lblN M fb)
theorem lblL_length (M : List Nat) (fb : Nat → Bool) (i : Nat) : (lblL M fb i).length = 2 * i := by simp [lblL]
theorem lblL_at {M : List Nat} {fb : Nat → Bool} {i d : Nat} (h : d < 2 * i) : at' (lblL M fb i) d = lblN M fb d := by simp [lblL, at', h]
theorem lblL_succ (M : List Nat) (fb : Nat → Bool) (i : Nat) : lblL M fb (i + 1) = lblL M fb i ++ [lblN M fb (2 * i), lblN M fb (2 * i + 1)] := by
  unfold lblL
  rw [show 2 * (i + 1) = 2 * i + 1 + 1 by omega, List.range_succ, List.range_succ]
  simp
theorem lblN_even (M : List Nat) (fb : Nat → Bool) (i : Nat) : lblN M fb (2 * i) = (if fb i = true then 2 * at' M i + 1 else 2 * at' M i) ∧ lblN M fb (2 * i + 1) = (if fb i = true then 2 * at' M i else 2 * at' M i + 1) := by
  unfold lblN
  rw [show 2 * i / 2 = i by omega, show (2 * i + 1) / 2 = i by omega, show 2 * i % 2 = 0 by omega, show (2 * i + 1) % 2 = 1 by omega]
  cases fb i with
  | true => simp only [if_true, xor_one]; constructor <;> split <;> omega
  | false => simp
theorem lblN_div (M : List Nat) (fb : Nat → Bool) (d : Nat) : lblN M fb d / 2 = at' M (d / 2) := by
  unfold lblN
  split
  · rw [xor_one_div]; omega
  · omega
section
variable {M : List Nat} (hM : IsPerm M) (fb : Nat → Bool)
include hM
theorem lbl_perm : IsPerm (lblL M fb M.length) := by
  refine IsPerm.of_inj (fun i hi => ?_) (fun i j hi hj h => ?_)
  · rw [lblL_length] at hi ⊢
    rw [lblL_at hi]
    have h1 := lblN_div M fb i
    have h2 := hM.lt (i := i / 2) (by omega)
    omega
  · rw [lblL_length] at hi hj
    rw [lblL_at hi, lblL_at hj] at h
    have h1 := lblN_div M fb i
    have h2 := lblN_div M fb j
    have h3 := hM.inj (i := i / 2) (j := j / 2) (by omega) (by omega) (by rw [← h1, ← h2, h])
    unfold lblN at h
    rw [h3] at h
    split at h
    · have := congrArg (· ^^^ 1) h
      simp only [xor_one_one] at this
      omega
    · omega
theorem lbl_mates : Mates (lblL M fb M.length) := by
  have _h := hM
  intro d hd
  rw [lblL_length] at hd
  have hx := xor_one_lt (n := 2 * M.length) (by omega) hd
  rw [lblL_at hx, lblL_at hd]
  unfold lblN
  rw [xor_one_div]
  have h2 : (d ^^^ 1) % 2 = 1 - d % 2 := by rw [xor_one]; split <;> omega
  rw [h2]
  split
  · rw [xor_one_one, xor_one]; split <;> omega
  · rw [xor_one]; split <;> omega
end
/-- the first and the third change places -/
def sw02 (L : List Nat) : List Nat := (L.set 0 (at' L 2)).set 2 (at' L 0)
theorem sw02_length (L : List Nat) : (sw02 L).length = L.length := by simp [sw02]
theorem sw02_at {L : List Nat} {i : Nat} (hi : i < L.length) : at' (sw02 L) i = at' L (if i = 2 then 0 else if i = 0 then 2 else i) := by
  unfold sw02 at'
  simp only [List.getD_eq_getElem?_getD, List.getElem?_set, List.length_set]
  by_cases h1 : i = 2
  · subst h1; simp [hi]
  · rw [if_neg (fun h => h1 h.symm), if_neg h1]
    by_cases h2 : i = 0
    · subst h2; simp [hi]
    · rw [if_neg (fun h => h2 h.symm), if_neg h2]
theorem sw02_perm {L : List Nat} (hL : IsPerm L) (h2 : 2 < L.length) : IsPerm (sw02 L) := by
  refine IsPerm.of_inj (fun i hi => ?_) (fun i j hi hj h => ?_)
  · rw [sw02_length] at hi ⊢
    rw [sw02_at hi]
    exact hL.lt (by repeat' split
                    all_goals omega)
  · rw [sw02_length] at hi hj
    rw [sw02_at hi, sw02_at hj] at h
    have := hL.inj (by repeat' split
                       all_goals omega) (by repeat' split
                                            all_goals omega) h
    repeat' split at this
    all_goals omega
theorem sw02_not {L : List Nat} (hL : IsPerm L) (hm : Mates L) (h2 : 2 < L.length) : ¬ Mates (sw02 L) := fun h => by
  have h0 := h 0 (by rw [sw02_length]; omega)
  rw [show 0 ^^^ 1 = 1 from rfl, sw02_at (by omega), sw02_at (by omega)] at h0
  simp at h0
  have h1 := hm 0 (by omega)
  rw [show 0 ^^^ 1 = 1 from rfl] at h1
  rw [h1] at h0
  have := congrArg (· ^^^ 1) h0
  simp only [xor_one_one] at this
  have := hL.inj (i := 0) (j := 2) (by omega) h2 this
  omega

section
variable {s t : List Nat} (hs : IsPerm s) (ht : IsPerm t) (hl : t.length = s.length)
include ht
theorem inv_mates (he : t.length % 2 = 0) (hm : Mates t) : Mates (invL t) := by
  intro d hd
  rw [invL_length] at hd
  have h1 := at_invL ht (y := d) hd
  have h2 := at_invL ht (y := d ^^^ 1) (xor_one_lt he hd)
  refine ht.inj h2.2 (xor_one_lt he h1.2) ?_
  rw [h2.1, hm _ h1.2, h1.1]
include hs hl
theorem rel_back : relL (relL s t) (invL t) = s := by
  refine eq_at (by rw [relL_length, relL_length]) fun j hj => ?_
  rw [relL_length, relL_length] at hj
  have hjt : j < t.length := by rw [hl]; exact hj
  rw [relL_at (by rw [relL_length]; exact hj), inv_inv ht, relL_to ht hl hj, invL_at ht (by rw [hl]; exact hs.lt hj)]
theorem root_back {r : Int} (hr : r = -1 ∨ (0 ≤ r ∧ r < s.length)) : atI (invL t) (atI t r) = r := by
  have _h := hs
  rcases hr with rfl | ⟨h1, h2⟩
  · rw [atI_out (s := t) (Or.inl (by omega)), atI_out (Or.inl (by omega))]
  · obtain ⟨k, rfl⟩ := Int.eq_ofNat_of_zero_le h1
    have hk : k < t.length := by omega
    rw [atI_in hk, atI_in (by rw [invL_length]; exact ht.lt hk), invL_at ht hk]
end
end Go.Proofs.YtklkgicjfnbndaaGreat

namespace Go.Proofs.YtklkgicjfnbndaaGreat
set_option linter.unusedVariables false

/-- was an edge met? -/
def hasE (F : List Nat) (d : Nat) : Bool := F.any fun x => decide (x / 2 = d / 2)
theorem hasE_iff {F : List Nat} {d : Nat} : hasE F d = true ↔ ∃ i, i < F.length ∧ at' F i / 2 = d / 2 := by
  unfold hasE
  rw [List.any_eq_true]
  constructor
  · rintro ⟨x, hx, h⟩
    obtain ⟨i, hi, rfl⟩ := List.getElem_of_mem hx
    exact ⟨i, hi, by rw [at'_eq hi]; simpa using h⟩
  · rintro ⟨i, hi, h⟩
    rw [at'_eq hi] at h
    exact ⟨F[i], List.getElem_mem hi, by simpa using h⟩
def fstAdd (F : List Nat) (d : Nat) : List Nat := if hasE F d = true then F else F ++ [d]
/-- the darts that are met first, of their edges -/
def fstL (F ds : List Nat) : List Nat := ds.foldl fstAdd F
/-- where a dart's edge stands -/
def idxE (F : List Nat) (d : Nat) : Nat := F.findIdx fun x => decide (x / 2 = d / 2)
/-- a dart's name -/
def nmF (F : List Nat) (d : Nat) : Nat := 2 * idxE F d + if at' F (idxE F d) = d then 0 else 1
def nmI (F : List Nat) (d : Nat) : Int := if hasE F d = true then ((nmF F d : Nat) : Int) else -1
def namesF (n : Nat) (F : List Nat) : List Int := (List.range n).map (nmI F)
theorem namesF_length (n : Nat) (F : List Nat) : (namesF n F).length = n := by simp [namesF]
theorem namesF_at {n : Nat} {F : List Nat} {d : Nat} (h : d < n) : nth (namesF n F) d = nmI F d := by simp [namesF, nth, h]
theorem namesF_nil (n : Nat) : namesF n [] = List.replicate n (-1) := by
  refine List.ext_getElem (by simp [namesF]) fun i h1 h2 => ?_
  simp [namesF, nmI, hasE]

/-- each edge once -/
structure FOk (n : Nat) (F : List Nat) : Prop where
  lt : ∀ i, i < F.length → at' F i < n
  one : ∀ i j, i < F.length → j < F.length → at' F i / 2 = at' F j / 2 → i = j
theorem FOk.nil (n : Nat) : FOk n [] := ⟨fun i h => by simp at h, fun i j h => by simp at h⟩
theorem at_app {F : List Nat} {d i : Nat} (hi : i < F.length) : at' (F ++ [d]) i = at' F i := by simp [at', List.getD, List.getElem?_append_left hi]
theorem at_app_last {F : List Nat} {d : Nat} : at' (F ++ [d]) F.length = d := by simp [at', List.getD]
theorem FOk.add {n : Nat} {F : List Nat} (h : FOk n F) {d : Nat} (hd : d < n) : FOk n (fstAdd F d) := by
  unfold fstAdd
  by_cases hh : hasE F d = true
  · rw [if_pos hh]; exact h
  · rw [if_neg hh]
    have hno : ∀ i, i < F.length → at' F i / 2 ≠ d / 2 := fun i hi e => hh (hasE_iff.2 ⟨i, hi, e⟩)
    refine ⟨fun i hi => ?_, fun i j hi hj e => ?_⟩
    · rw [List.length_append, List.length_singleton] at hi
      by_cases hl : i < F.length
      · rw [at_app hl]; exact h.lt i hl
      · obtain rfl : i = F.length := by omega
        rw [at_app_last]; exact hd
    · rw [List.length_append, List.length_singleton] at hi hj
      by_cases hl : i < F.length <;> by_cases hk : j < F.length
      · rw [at_app hl, at_app hk] at e; exact h.one i j hl hk e
      · obtain rfl : j = F.length := by omega
        rw [at_app hl, at_app_last] at e
        exact absurd e (hno i hl)
      · obtain rfl : i = F.length := by omega
        rw [at_app hk, at_app_last] at e
        exact absurd e.symm (hno j hk)
      · omega
theorem FOk.fst {n : Nat} : ∀ (ds : List Nat) {F : List Nat}, FOk n F → (∀ d, d ∈ ds → d < n) → FOk n (fstL F ds)
  | [], F, h, _ => h
  | d :: ds, F, h, hd => FOk.fst ds (h.add (hd d List.mem_cons_self)) fun x hx => hd x (List.mem_cons_of_mem _ hx)
theorem hasE_add {F : List Nat} {d x : Nat} : hasE (fstAdd F d) x = true ↔ hasE F x = true ∨ d / 2 = x / 2 := by
  unfold fstAdd
  by_cases hh : hasE F d = true
  · rw [if_pos hh]
    refine ⟨Or.inl, fun h => h.elim id fun e => ?_⟩
    obtain ⟨i, hi, e1⟩ := hasE_iff.1 hh
    exact hasE_iff.2 ⟨i, hi, e1.trans e⟩
  · rw [if_neg hh]
    unfold hasE
    rw [List.any_append, Bool.or_eq_true]
    simp
theorem hasE_fst : ∀ (ds : List Nat) {F : List Nat} {x : Nat}, hasE (fstL F ds) x = true ↔ hasE F x = true ∨ ∃ d, d ∈ ds ∧ d / 2 = x / 2
  | [], F, x => ⟨Or.inl, fun h => h.elim id fun ⟨d, hd, _⟩ => by cases hd⟩
  | d :: ds, F, x => by
    show hasE (fstL (fstAdd F d) ds) x = true ↔ _
    rw [hasE_fst ds, hasE_add]
    constructor
    · rintro ((h | h) | ⟨y, hy, e⟩)
      · exact Or.inl h
      · exact Or.inr ⟨d, List.mem_cons_self, h⟩
      · exact Or.inr ⟨y, List.mem_cons_of_mem _ hy, e⟩
    · rintro (h | ⟨y, hy, e⟩)
      · exact Or.inl (Or.inl h)
      · rcases List.mem_cons.1 hy with rfl | hy
        · exact Or.inl (Or.inr e)
        · exact Or.inr ⟨y, hy, e⟩
theorem idx_of {n : Nat} {F : List Nat} (h : FOk n F) {i d : Nat} (hi : i < F.length) (e : at' F i / 2 = d / 2) : idxE F d = i := by
  have hl : F.findIdx (fun x => decide (x / 2 = d / 2)) < F.length := List.findIdx_lt_length_of_exists ⟨F[i], List.getElem_mem hi, by rw [at'_eq hi] at e; simpa using e⟩
  have hp := List.findIdx_getElem (w := hl)
  refine h.one _ _ hl hi ?_
  rw [e]
  show at' F (idxE F d) / 2 = d / 2
  rw [show at' F (idxE F d) = F[F.findIdx (fun x => decide (x / 2 = d / 2))] from at'_eq hl]
  simpa using hp
theorem nm_at {n : Nat} {F : List Nat} (h : FOk n F) {i : Nat} (hi : i < F.length) : nmF F (at' F i) = 2 * i := by
  unfold nmF
  rw [idx_of h hi rfl, if_pos rfl, Nat.add_zero]
theorem nm_mate {n : Nat} {F : List Nat} (h : FOk n F) {i : Nat} (hi : i < F.length) : nmF F (at' F i ^^^ 1) = 2 * i + 1 := by
  unfold nmF
  rw [idx_of h hi (xor_one_div _).symm, if_neg (xor_one_ne _).symm]
theorem nm_cases {n : Nat} {F : List Nat} (h : FOk n F) {d : Nat} (hd : hasE F d = true) : ∃ i, i < F.length ∧ (d = at' F i ∧ nmF F d = 2 * i ∨ d = at' F i ^^^ 1 ∧ nmF F d = 2 * i + 1) := by
  obtain ⟨i, hi, e⟩ := hasE_iff.1 hd
  refine ⟨i, hi, ?_⟩
  rcases half_eq e.symm with e1 | e1
  · exact Or.inl ⟨e1, by rw [e1, nm_at h hi]⟩
  · exact Or.inr ⟨e1, by rw [e1, nm_mate h hi]⟩
/-- a new edge's names are the next ones -/
theorem namesF_add {n : Nat} {F : List Nat} (h : FOk n F) (he : n % 2 = 0) {d : Nat} (hd : d < n) (hno : hasE F d = false) :
    ((namesF n F).set d ((2 * F.length : Nat) : Int)).set (d ^^^ 1) ((2 * F.length + 1 : Nat) : Int) = namesF n (F ++ [d]) := by
  have hno' : ¬ hasE F d = true := by rw [hno]; simp
  have hadd : fstAdd F d = F ++ [d] := by unfold fstAdd; rw [if_neg hno']
  have hok : FOk n (F ++ [d]) := by rw [← hadd]; exact h.add hd
  have hlen : F.length < (F ++ [d]).length := by simp
  refine List.ext_getElem (by simp [namesF]) fun x h1 h2 => ?_
  have hx : x < n := by simpa [namesF] using h2
  rw [List.getElem_set, List.getElem_set]
  have e0 : ∀ G, (namesF n G)[x]'(by simp [namesF]; exact hx) = nmI G x := fun G => by simp [namesF]
  rw [e0, e0]
  have hhas : hasE (F ++ [d]) x = true ↔ hasE F x = true ∨ d / 2 = x / 2 := by rw [← hadd]; exact hasE_add
  by_cases e1 : d ^^^ 1 = x
  · rw [if_pos e1]
    unfold nmI
    rw [if_pos (hhas.2 (Or.inr (by rw [← e1, xor_one_div])))]
    have := nm_mate hok hlen
    rw [at_app_last, e1] at this
    rw [this]
  · rw [if_neg e1]
    by_cases e2 : d = x
    · rw [if_pos e2]
      unfold nmI
      rw [if_pos (hhas.2 (Or.inr (by rw [e2])))]
      have := nm_at hok hlen
      rw [at_app_last] at this
      rw [← e2, this]
    · rw [if_neg e2]
      have e3 : ¬ d / 2 = x / 2 := fun e => (half_eq e).elim (fun k => e2 k) fun k => e1 (by rw [k, xor_one_one])
      unfold nmI
      by_cases hF : hasE F x = true
      · rw [if_pos hF, if_pos (hhas.2 (Or.inl hF))]
        obtain ⟨i, hi, k⟩ := nm_cases h hF
        have hi' : i < (F ++ [d]).length := by simp; omega
        have m1 := nm_at hok hi'
        have m2 := nm_mate hok hi'
        rw [at_app hi] at m1 m2
        rcases k with ⟨k1, k2⟩ | ⟨k1, k2⟩
        · rw [k2, k1, m1]
        · rw [k2, k1, m2]
      · rw [if_neg hF, if_neg (fun k => (hhas.1 k).elim hF e3)]

/-- all names -/
def canP (n : Nat) (F : List Nat) : List Nat := (List.range n).map (nmF F)
theorem canP_length (n : Nat) (F : List Nat) : (canP n F).length = n := by simp [canP]
theorem canP_at {n : Nat} {F : List Nat} {d : Nat} (h : d < n) : at' (canP n F) d = nmF F d := by simp [canP, at', h]
theorem namesF_all {n : Nat} {F : List Nat} (hall : ∀ d, d < n → hasE F d = true) : namesF n F = toI (canP n F) := by
  unfold namesF canP toI
  rw [List.map_map]
  refine List.map_congr_left fun d hd => ?_
  unfold nmI
  rw [if_pos (hall d (List.mem_range.1 hd))]
  rfl
section
variable {n : Nat} {F : List Nat} (h : FOk n F) (he : n % 2 = 0) (hall : ∀ d, d < n → hasE F d = true)
include h he hall
theorem canF_length : 2 * F.length = n := by
  have hnd : (F.map (fun x => x / 2)).Nodup := by
    rw [List.nodup_iff_pairwise_ne, List.pairwise_iff_getElem]
    intro i j hi hj hij e
    simp only [List.getElem_map] at e
    rw [List.length_map] at hi hj
    have := h.one i j hi hj (by rw [at'_eq hi, at'_eq hj]; exact e)
    omega
  have h1 : (F.map (fun x => x / 2)).length ≤ (List.range (n / 2)).length := hnd.length_le_of_subset fun x hx => by
    obtain ⟨y, hy, rfl⟩ := List.mem_map.1 hx
    obtain ⟨i, hi, rfl⟩ := List.getElem_of_mem hy
    have := h.lt i hi
    rw [at'_eq hi] at this
    exact List.mem_range.2 (by omega)
  have h2 : (List.range (n / 2)).length ≤ (F.map (fun x => x / 2)).length := List.nodup_range.length_le_of_subset fun x hx => by
    have hx := List.mem_range.1 hx
    obtain ⟨i, hi, e⟩ := hasE_iff.1 (hall (2 * x) (by omega))
    rw [at'_eq hi] at e
    exact List.mem_map.2 ⟨F[i], List.getElem_mem hi, by omega⟩
  simp at h1 h2
  omega
theorem canP_perm : IsPerm (canP n F) := by
  have hl := canF_length h he hall
  refine IsPerm.of_inj (fun i hi => ?_) (fun i j hi hj e => ?_)
  · rw [canP_length] at hi ⊢
    rw [canP_at hi]
    obtain ⟨k, hk, ⟨_, e⟩ | ⟨_, e⟩⟩ := nm_cases h (hall i hi) <;> omega
  · rw [canP_length] at hi hj
    rw [canP_at hi, canP_at hj] at e
    obtain ⟨k, hk, ⟨a1, a2⟩ | ⟨a1, a2⟩⟩ := nm_cases h (hall i hi) <;> obtain ⟨m, hm, ⟨b1, b2⟩ | ⟨b1, b2⟩⟩ := nm_cases h (hall j hj)
    · have : k = m := by omega
      rw [a1, b1, this]
    · omega
    · omega
    · have : k = m := by omega
      rw [a1, b1, this]
theorem canP_mates : Mates (canP n F) := fun d hd => by
  rw [canP_length] at hd
  rw [canP_at hd, canP_at (xor_one_lt he hd)]
  obtain ⟨k, hk, ⟨a1, a2⟩ | ⟨a1, a2⟩⟩ := nm_cases h (hall d hd)
  · rw [a2, a1, nm_mate h hk, xor_even]
  · rw [a2, a1, xor_one_one, nm_at h hk, xor_odd]
end

/-- the darts of one's part, as they are walked -/
noncomputable def walkD (s : List Nat) (r : Nat) : List Nat := (List.range (partC' s r)).map (wd s (sizesL s).length r)
/-- where the other parts are walked from -/
def firstB (N : List Int) (root d : Nat) : Bool := !decide (nth N d = nth N root) && (List.range d).all fun x => !decide (nth N x = nth N d)
def restTo (N : List Int) (root k : Nat) : List Nat := (List.range k).filter (firstB N root)
theorem restTo_succ (N : List Int) (root k : Nat) : restTo N root (k + 1) = if firstB N root k = true then restTo N root k ++ [k] else restTo N root k := by
  unfold restTo
  rw [List.range_succ, List.filter_append]
  by_cases h : firstB N root k = true
  · rw [if_pos h]; simp [h]
  · rw [if_neg h]; simp [h]
def rootsL (s : List Nat) (root : Nat) : List Nat := root :: restTo (partsL s) root s.length
noncomputable def canD (s : List Nat) (root : Nat) : List Nat := if s.length = 0 then [] else (rootsL s root).flatMap (walkD s)
noncomputable def canF (s : List Nat) (root : Nat) : List Nat := fstL [] (canD s root)
/-- the canonical names -/
noncomputable def canL (s : List Nat) (root : Nat) : List Nat := canP s.length (canF s root)

theorem firstB_iff {N : List Int} {root d : Nat} : firstB N root d = true ↔ nth N d ≠ nth N root ∧ ∀ x, x < d → nth N x ≠ nth N d := by
  unfold firstB
  rw [Bool.and_eq_true, List.all_eq_true]
  constructor
  · rintro ⟨h1, h2⟩
    exact ⟨by simpa using h1, fun x hx => by simpa using h2 x (List.mem_range.2 hx)⟩
  · rintro ⟨h1, h2⟩
    exact ⟨by simpa using h1, fun x hx => by simpa using h2 x (List.mem_range.1 hx)⟩
theorem rootsL_lt {s : List Nat} {root : Nat} (hr : root < s.length) : ∀ r, r ∈ rootsL s root → r < s.length := fun r h => by
  rcases List.mem_cons.1 h with rfl | h
  · exact hr
  · exact List.mem_range.1 (List.mem_filter.1 h).1
section
variable {s : List Nat} (hs : IsPerm s) (he : s.length % 2 = 0)
include hs he
theorem mem_walkD {r x : Nat} (hr : r < s.length) : x ∈ walkD s r ↔ Con s r x := by
  obtain ⟨h1, h2, h3⟩ := wlen hs he hr (V := (sizesL s).length) (Nat.le_refl _)
  rw [wall hs he hr (V := (sizesL s).length) (Nat.le_refl _) h2 h1 h3]
  unfold walkD
  constructor
  · intro h
    obtain ⟨j, hj, e⟩ := List.mem_map.1 h
    exact ⟨j, List.mem_range.1 hj, e⟩
  · rintro ⟨j, hj, e⟩
    exact List.mem_map.2 ⟨j, List.mem_range.2 hj, e⟩
theorem rootsL_all {root : Nat} (hr : root < s.length) {x : Nat} (hx : x < s.length) : ∃ r, r ∈ rootsL s root ∧ Con s r x := by
  have hrel := (partsL_ord hs he).rel
  by_cases e : nth (partsL s) x = nth (partsL s) root
  · exact ⟨root, List.mem_cons_self, (hrel _ _ hr hx).1 e.symm⟩
  · obtain ⟨l, hl, hc, hm⟩ := (Con.per hs).least x hx
    have hln : l < s.length := by omega
    have h1 : nth (partsL s) l = nth (partsL s) x := (hrel _ _ hln hx).2 hc
    refine ⟨l, List.mem_cons_of_mem _ (List.mem_filter.2 ⟨List.mem_range.2 hln, firstB_iff.2 ⟨by rw [h1]; exact e, fun y hy k => hm y hy ((hrel _ _ (by omega) hln).1 k)⟩⟩), hc⟩
theorem canD_lt {root : Nat} (hr : root < s.length) : ∀ d, d ∈ canD s root → d < s.length := fun d h => by
  unfold canD at h
  rw [if_neg (by omega)] at h
  obtain ⟨r, h1, h2⟩ := List.mem_flatMap.1 h
  exact (Con.per hs).cod ((mem_walkD hs he (rootsL_lt hr r h1)).1 h2)
theorem canF_ok {root : Nat} (hr : root < s.length) : FOk s.length (canF s root) := FOk.fst _ (FOk.nil _) (canD_lt hs he hr)
theorem canF_all {root : Nat} (hr : root < s.length) : ∀ d, d < s.length → hasE (canF s root) d = true := fun d hd => by
  unfold canF
  rw [hasE_fst]
  obtain ⟨r, h1, h2⟩ := rootsL_all hs he hr hd
  refine Or.inr ⟨d, ?_, rfl⟩
  unfold canD
  rw [if_neg (by omega)]
  exact List.mem_flatMap.2 ⟨r, h1, (mem_walkD hs he (rootsL_lt hr r h1)).2 h2⟩
theorem canL_perm {root : Nat} (hr : root < s.length) : IsPerm (canL s root) := canP_perm (canF_ok hs he hr) he (canF_all hs he hr)
theorem canL_mates {root : Nat} (hr : root < s.length) : Mates (canL s root) := canP_mates (canF_ok hs he hr) he (canF_all hs he hr)
/-- the root's name is nought -/
theorem canL_root {root : Nat} (hr : root < s.length) : at' (canL s root) root = 0 := by
  have hok := canF_ok hs he hr
  unfold canL
  rw [canP_at hr]
  have h0 : ∃ l, canF s root = root :: l := by
    have hp := (wlen hs he hr (V := (sizesL s).length) (Nat.le_refl _)).2.1
    obtain ⟨p, hpp⟩ : ∃ p, partC' s root = p + 1 := ⟨partC' s root - 1, by omega⟩
    have e1 : ∃ l, canD s root = root :: l := by
      unfold canD rootsL walkD
      rw [if_neg (by omega), List.flatMap_cons, hpp, List.range_succ_eq_map]
      exact ⟨_, rfl⟩
    obtain ⟨l, e1⟩ := e1
    have keep : ∀ (ds : List Nat) (F : List Nat), (∃ l, F = root :: l) → ∃ l, fstL F ds = root :: l := fun ds => by
      induction ds with
      | nil => exact fun F h => h
      | cons d ds ih =>
        rintro F ⟨l, rfl⟩
        refine ih _ ?_
        unfold fstAdd
        split
        · exact ⟨l, rfl⟩
        · exact ⟨l ++ [d], rfl⟩
    unfold canF
    rw [e1]
    exact keep l _ ⟨[], rfl⟩
  obtain ⟨l, hl⟩ := h0
  have := nm_at hok (i := 0) (by rw [hl]; simp)
  rw [hl] at this ⊢
  exact this
end

end Go.Proofs.YtklkgicjfnbndaaGreat

namespace Go.Proofs.YtklkgicjfnbndaaGreat
set_option linter.unusedVariables false

theorem setB_len {l : List Bool} {i : Nat} {b : Bool} : (l.set i b).length = l.length := List.length_set
theorem half_rel {s t : List Nat} (he : s.length % 2 = 0) (ht : IsPerm t) (hl : t.length = s.length) (hm : Mates t) {x y : Nat} (hx : x < s.length) (hy : y < s.length) : at' t x / 2 = at' t y / 2 ↔ x / 2 = y / 2 := by
  constructor
  · intro h
    rcases half_eq h with e | e
    · rw [ht.inj (by omega) (by omega) e]
    · rw [← hm y (by omega)] at e
      rw [ht.inj (by omega) (by rw [hl]; exact xor_one_lt he hy) e, xor_one_div]
  · intro h
    rcases half_eq h with e | e
    · rw [e]
    · rw [e, hm y (by omega), xor_one_div]
section
variable {s t : List Nat} (hs : IsPerm s) (he : s.length % 2 = 0) (ht : IsPerm t) (hl : t.length = s.length) (hm : Mates t)
include hs he ht hl hm

theorem vtx_rel {x y : Nat} (hx : x < s.length) (hy : y < s.length) : vtx (relL s t) (at' t x) = vtx (relL s t) (at' t y) ↔ vtx s x = vtx s y := by
  have _u := hm
  have hp := relL_perm hs ht hl
  have hrl := relL_length s t
  have hlt : ∀ x, x < s.length → at' t x < s.length := fun x hx => by have := ht.lt (i := x) (by rw [hl]; exact hx); omega
  rw [vtx_cyc hs hx hy, vtx_cyc hp (by rw [hrl]; exact hlt x hx) (by rw [hrl]; exact hlt y hy), hrl, ← rel_cyc hs ht hl hx hy]

/-- at the same place -/
structure SimW (s t : List Nat) (a b : WSt) : Prop where
  lt : a.d < s.length
  d : b.d = at' t a.d
  el : a.ed.length = s.length / 2
  el' : b.ed.length = s.length / 2
  ml : a.mt.length = (sizesL s).length
  ml' : b.mt.length = (sizesL s).length
  ed : ∀ x, x < s.length → nth b.ed (at' t x / 2) = nth a.ed (x / 2)
  mt : ∀ x, x < s.length → getB b.mt (vtx (relL s t) (at' t x)) = getB a.mt (vtx s x)
theorem SimW.kind {a b : WSt} (h : SimW s t a b) : wkind (relL s t) b = wkind s a := by
  have _u := hs
  have _v := ht
  unfold wkind
  rw [h.d, ← hm a.d (by rw [hl]; exact h.lt), h.ed _ h.lt, h.mt _ (xor_one_lt he h.lt)]
theorem SimW.next {a b : WSt} (h : SimW s t a b) : SimW s t (wnext s a) (wnext (relL s t) b) := by
  have hk := h.kind hs he ht hl hm
  have hxl := xor_one_lt he h.lt
  have hp := relL_perm hs ht hl
  have hrl := relL_length s t
  have hlt : ∀ x, x < s.length → at' t x < s.length := fun x hx => by have := ht.lt (i := x) (by rw [hl]; exact hx); omega
  have hd0 : nth b.ed (b.d / 2) = nth a.ed (a.d / 2) := by rw [h.d]; exact h.ed _ h.lt
  have hmd : b.d ^^^ 1 = at' t (a.d ^^^ 1) := by rw [h.d, hm a.d (by rw [hl]; exact h.lt)]
  have hh := h.lt
  have hbl := hlt _ hh
  refine ⟨?_, ?_, ?_, ?_, ?_, ?_, fun x hx => ?_, fun x hx => ?_⟩
  · show wdart s a < s.length
    unfold wdart
    split
    · exact hs.lt hxl
    · exact hs.lt hh
  · show wdart (relL s t) b = at' t (wdart s a)
    unfold wdart
    rw [hk]
    split
    · rw [hmd, relL_to ht hl hxl]
    · rw [h.d, relL_to ht hl hh]
  · show (wed s a).length = _
    unfold wed; split <;> simp [h.el]
  · show (wed _ b).length = _
    unfold wed; split <;> simp [h.el']
  · show (wmt s a).length = _
    unfold wmt; split <;> simp [h.ml]
  · show (wmt _ b).length = _
    unfold wmt; split <;> simp [h.ml']
  · show nth (wed _ b) _ = nth (wed s a) _
    unfold wed
    rw [hd0, hk]
    by_cases h0 : nth a.ed (a.d / 2) = 0
    · rw [if_pos h0, if_pos h0, nth_set (by rw [h.el', h.d]; omega), nth_set (by rw [h.el]; omega), h.ed x hx, h.d]
      by_cases e : a.d / 2 = x / 2
      · rw [if_pos e, if_pos ((half_rel he ht hl hm hh hx).2 e)]
      · rw [if_neg e, if_neg (fun k => e ((half_rel he ht hl hm hh hx).1 k))]
    · rw [if_neg h0, if_neg h0]; exact h.ed x hx
  · show getB (wmt _ b) _ = getB (wmt s a) _
    unfold wmt
    rw [hk]
    by_cases h0 : wkind s a = 0
    · have hvl := vtx_lt hp (x := at' t (a.d ^^^ 1)) (by rw [hrl]; exact hlt _ hxl)
      rw [rel_vertices hs ht hl] at hvl
      rw [if_pos h0, if_pos h0, hmd, getB_set (by rw [h.ml']; exact hvl), getB_set (by rw [h.ml]; exact vtx_lt hs hxl), h.mt x hx]
      by_cases e : vtx s (a.d ^^^ 1) = vtx s x
      · rw [if_pos e, if_pos ((vtx_rel hs he ht hl hm hxl hx).2 e)]
      · rw [if_neg e, if_neg (fun k => e ((vtx_rel hs he ht hl hm hxl hx).1 k))]
    · rw [if_neg h0, if_neg h0]; exact h.mt x hx
theorem SimW.all {root : Nat} (hr : root < s.length) : ∀ i, SimW s t (wst s (sizesL s).length root i) (wst (relL s t) (sizesL s).length (at' t root) i)
  | 0 => by
    have hp := relL_perm hs ht hl
    have hrl := relL_length s t
    have hlt : ∀ x, x < s.length → at' t x < s.length := fun x hx => by have := ht.lt (i := x) (by rw [hl]; exact hx); omega
    have hvl := vtx_lt hp (x := at' t root) (by rw [hrl]; exact hlt _ hr)
    rw [rel_vertices hs ht hl] at hvl
    refine ⟨hr, rfl, by simp [wst], by simp [wst, hrl], by simp [wst], by simp [wst], fun x hx => ?_, fun x hx => ?_⟩
    · show nth (List.replicate _ 0) _ = nth (List.replicate _ 0) _
      rw [nth_rep, nth_rep]
    · show getB (List.set (List.replicate _ _) _ _) _ = getB (List.set (List.replicate _ _) _ _) _
      rw [getB_set (by rw [List.length_replicate]; exact hvl), getB_set (by rw [List.length_replicate]; exact vtx_lt hs hr)]
      have hf : ∀ (n i : Nat), getB (List.replicate n false) i = false := fun n i => by
        unfold getB
        by_cases h : i < n <;> simp [h]
      rw [hf, hf]
      by_cases e : vtx s root = vtx s x
      · rw [if_pos e, if_pos ((vtx_rel hs he ht hl hm hr hx).2 e)]
      · rw [if_neg e, if_neg (fun k => e ((vtx_rel hs he ht hl hm hr hx).1 k))]
  | i + 1 => (SimW.all hr i).next hs he ht hl hm
theorem wd_rel {root : Nat} (hr : root < s.length) (i : Nat) : wd (relL s t) (sizesL s).length (at' t root) i = at' t (wd s (sizesL s).length root i) := (SimW.all hs he ht hl hm hr i).d
theorem part_rel {root : Nat} (hr : root < s.length) : partC' (relL s t) (at' t root) = partC' s root := by
  have hp := relL_perm hs ht hl
  have hrl := relL_length s t
  have hlt : ∀ x, x < s.length → at' t x < s.length := fun x hx => by have := ht.lt (i := x) (by rw [hl]; exact hx); omega
  obtain ⟨a1, a2, a3⟩ := wlen hs he hr (V := (sizesL s).length) (Nat.le_refl _)
  obtain ⟨b1, b2, b3⟩ := wlen hp (by rw [hrl]; exact he) (root := at' t root) (by rw [hrl]; exact hlt _ hr) (V := (sizesL s).length) (by rw [rel_vertices hs ht hl]; exact Nat.le_refl _)
  have hw := wd_rel hs he ht hl hm hr
  rcases Nat.lt_trichotomy (partC' (relL s t) (at' t root)) (partC' s root) with h | h | h
  · exfalso
    rw [hw] at b1
    exact a3 _ b2 h (ht.inj (by rw [hl]; exact (SimW.all hs he ht hl hm hr _).lt) (by rw [hl]; exact hr) b1)
  · exact h
  · exfalso
    exact b3 _ a2 h (by rw [hw, a1])
theorem walkD_rel {root : Nat} (hr : root < s.length) : walkD (relL s t) (at' t root) = (walkD s root).map (at' t) := by
  unfold walkD
  rw [part_rel hs he ht hl hm hr, rel_vertices hs ht hl, List.map_map]
  exact List.map_congr_left fun j _ => wd_rel hs he ht hl hm hr j
end

/-- names that keep edges apart -/
structure HalfM (n : Nat) (f : Nat → Nat) : Prop where
  half : ∀ x y, x < n → y < n → (f x / 2 = f y / 2 ↔ x / 2 = y / 2)
  inj : ∀ x y, x < n → y < n → f x = f y → x = y
theorem hasE_map {n : Nat} {f : Nat → Nat} (h : HalfM n f) {F : List Nat} (hF : ∀ x, x ∈ F → x < n) {d : Nat} (hd : d < n) : hasE (F.map f) (f d) = hasE F d := by
  unfold hasE
  rw [List.any_map, Bool.eq_iff_iff, List.any_eq_true, List.any_eq_true]
  constructor
  · rintro ⟨x, hx, k⟩
    have k : decide (f x / 2 = f d / 2) = true := k
    exact ⟨x, hx, by simpa using (h.half x d (hF x hx) hd).1 (by simpa using k)⟩
  · rintro ⟨x, hx, k⟩
    refine ⟨x, hx, ?_⟩
    show decide (f x / 2 = f d / 2) = true
    simpa using (h.half x d (hF x hx) hd).2 (by simpa using k)
theorem fst_map {n : Nat} {f : Nat → Nat} (h : HalfM n f) : ∀ (ds F : List Nat), (∀ x, x ∈ F → x < n) → (∀ x, x ∈ ds → x < n) → fstL (F.map f) (ds.map f) = (fstL F ds).map f
  | [], F, _, _ => rfl
  | d :: ds, F, hF, hd => by
    have hdn := hd d List.mem_cons_self
    have e : fstAdd (F.map f) (f d) = (fstAdd F d).map f := by
      unfold fstAdd
      rw [hasE_map h hF hdn]
      split
      · rfl
      · simp
    show fstL (fstAdd (F.map f) (f d)) (ds.map f) = _
    rw [e]
    refine fst_map h ds _ (fun x hx => ?_) fun x hx => hd x (List.mem_cons_of_mem _ hx)
    unfold fstAdd at hx
    split at hx
    · exact hF x hx
    · rcases List.mem_append.1 hx with k | k
      · exact hF x k
      · rw [List.mem_singleton.1 k]; exact hdn
theorem nm_map {n : Nat} {f : Nat → Nat} (h : HalfM n f) {F : List Nat} (hF : FOk n F) {d : Nat} (hd : d < n) (hh : hasE F d = true) (hm : f (d ^^^ 1) = f d ^^^ 1) : nmF (F.map f) (f d) = nmF F d := by
  have hat : ∀ i, i < F.length → at' (F.map f) i = f (at' F i) := fun i hi => by simp [at', hi]
  have hok : FOk (n + (F.map f).sum + 1) (F.map f) := ⟨fun i hi => by
    rw [List.length_map] at hi
    have h1 : at' (F.map f) i ∈ F.map f := by rw [at'_eq (by rw [List.length_map]; exact hi)]; exact List.getElem_mem _
    have : at' (F.map f) i ≤ (F.map f).sum := by
      have key : ∀ (l : List Nat) x, x ∈ l → x ≤ l.sum := fun l => by
        induction l with
        | nil => intro x hx; cases hx
        | cons a l ih =>
          intro x hx
          rw [List.sum_cons]
          rcases List.mem_cons.1 hx with rfl | k
          · omega
          · have := ih x k; omega
      exact key _ _ h1
    omega, fun i j hi hj e => by
    rw [List.length_map] at hi hj
    rw [hat i hi, hat j hj] at e
    exact hF.one i j hi hj ((h.half _ _ (hF.lt i hi) (hF.lt j hj)).1 e)⟩
  obtain ⟨i, hi, ⟨e1, e2⟩ | ⟨e1, e2⟩⟩ := nm_cases hF hh
  · rw [e2, e1, ← hat i hi, nm_at hok (by rw [List.length_map]; exact hi)]
  · have e3 : f d = f (at' F i) ^^^ 1 := by
      have : f (at' F i) = f d ^^^ 1 := by rw [← hm, e1, xor_one_one]
      rw [this, xor_one_one]
    rw [e2, e3, ← hat i hi, nm_mate hok (by rw [List.length_map]; exact hi)]

section
variable {s t : List Nat} (hs : IsPerm s) (he : s.length % 2 = 0) (ht : IsPerm t) (hl : t.length = s.length) (hm : Mates t)
include hs he ht hl hm
theorem rel_half : HalfM s.length (at' t) := by
  have _u := hs
  exact ⟨fun x y hx hy => half_rel he ht hl hm hx hy, fun x y hx hy e => ht.inj (by omega) (by omega) e⟩
/-- where the roots are the same, so are the names -/
theorem canL_rel {root : Nat} (hr : root < s.length) (hroots : rootsL (relL s t) (at' t root) = (rootsL s root).map (at' t)) {d : Nat} (hd : d < s.length) : at' (canL (relL s t) (at' t root)) (at' t d) = at' (canL s root) d := by
  have hrl := relL_length s t
  have hlt : ∀ x, x < s.length → at' t x < s.length := fun x hx => by have := ht.lt (i := x) (by rw [hl]; exact hx); omega
  have hD : canD (relL s t) (at' t root) = (canD s root).map (at' t) := by
    unfold canD
    rw [hrl, if_neg (by omega), if_neg (by omega), hroots]
    have key : ∀ l : List Nat, (∀ r, r ∈ l → r < s.length) → (l.map (at' t)).flatMap (walkD (relL s t)) = (l.flatMap (walkD s)).map (at' t) := fun l => by
      induction l with
      | nil => intro _; rfl
      | cons a l ih =>
        intro h
        rw [List.map_cons, List.flatMap_cons, List.flatMap_cons, List.map_append, ih fun r hr => h r (List.mem_cons_of_mem _ hr), walkD_rel hs he ht hl hm (h a List.mem_cons_self)]
    exact key _ (rootsL_lt hr)
  have hF : canF (relL s t) (at' t root) = (canF s root).map (at' t) := by
    unfold canF
    rw [hD]
    exact fst_map (rel_half hs he ht hl hm) _ [] (fun x hx => by cases hx) (canD_lt hs he hr)
  unfold canL
  rw [hrl, canP_at (hlt d hd), canP_at hd, hF]
  exact nm_map (rel_half hs he ht hl hm) (canF_ok hs he hr) hd (canF_all hs he hr d hd) (hm d (by omega))
end
/-- of one part -/
theorem rootsL_one {s : List Nat} (hs : IsPerm s) (he : s.length % 2 = 0) {root : Nat} (hr : root < s.length) (h1 : ∀ x, x < s.length → Con s root x) : rootsL s root = [root] := by
  unfold rootsL restTo
  rw [List.filter_eq_nil_iff.2]
  intro d hd k
  exact (firstB_iff.1 k).1 (((partsL_ord hs he).rel _ _ (List.mem_range.1 hd) hr).2 ((Con.per hs).symm (h1 d (List.mem_range.1 hd))))
/-- two lists that rise and have the same members are the same -/
theorem rise_eq : ∀ (a b : List Nat), a.Pairwise (· < ·) → b.Pairwise (· < ·) → (∀ x, x ∈ a ↔ x ∈ b) → a = b
  | [], [], _, _, _ => rfl
  | [], y :: b, _, _, h => by have := (h y).2 List.mem_cons_self; cases this
  | x :: a, [], _, _, h => by have := (h x).1 List.mem_cons_self; cases this
  | x :: a, y :: b, ha, hb, h => by
    have ha' := List.pairwise_cons.1 ha
    have hb' := List.pairwise_cons.1 hb
    have e : x = y := by
      rcases List.mem_cons.1 ((h x).1 List.mem_cons_self) with k | k
      · exact k
      · rcases List.mem_cons.1 ((h y).2 List.mem_cons_self) with k' | k'
        · exact k'.symm
        · have := ha'.1 _ k'; have := hb'.1 _ k; omega
    subst e
    rw [rise_eq a b ha'.2 hb'.2 fun z => ⟨fun hz => by
      rcases List.mem_cons.1 ((h z).1 (List.mem_cons_of_mem _ hz)) with k | k
      · have := ha'.1 _ hz; omega
      · exact k, fun hz => by
      rcases List.mem_cons.1 ((h z).2 (List.mem_cons_of_mem _ hz)) with k | k
      · have := hb'.1 _ hz; omega
      · exact k⟩]

end Go.Proofs.YtklkgicjfnbndaaGreat

namespace Go.Proofs.YtklkgicjfnbndaaGreat
set_option linter.unusedVariables false

theorem fst_ext : ∀ (ds F : List Nat), ∃ l, fstL F ds = F ++ l
  | [], F => ⟨[], (List.append_nil F).symm⟩
  | d :: ds, F => by
    obtain ⟨l, h⟩ := fst_ext ds (fstAdd F d)
    show ∃ l, fstL (fstAdd F d) ds = F ++ l
    rw [h]
    unfold fstAdd
    split
    · exact ⟨l, rfl⟩
    · exact ⟨d :: l, by simp⟩
theorem at_app2 {F l : List Nat} {i : Nat} (hi : i < F.length) : at' (F ++ l) i = at' F i := by simp [at', List.getD, List.getElem?_append_left hi]
section
variable {n : Nat} {G l : List Nat} (h : FOk n (G ++ l))
include h
theorem nm_old {x : Nat} (hx : hasE G x = true) : nmF (G ++ l) x < 2 * G.length := by
  obtain ⟨i, hi, e⟩ := hasE_iff.1 hx
  have hi' : i < (G ++ l).length := by simp; omega
  rcases half_eq e.symm with k | k
  · rw [k, ← at_app2 (l := l) hi, nm_at h hi']; omega
  · rw [k, ← at_app2 (l := l) hi, nm_mate h hi']; omega
theorem nm_new {x : Nat} (hx : ¬ hasE G x = true) (ha : hasE (G ++ l) x = true) : 2 * G.length ≤ nmF (G ++ l) x := by
  obtain ⟨i, hi, k⟩ := nm_cases h ha
  have hge : G.length ≤ i := by
    rcases Nat.lt_or_ge i G.length with h1 | h1
    · exfalso
      rw [at_app2 h1] at k
      refine hx (hasE_iff.2 ⟨i, h1, ?_⟩)
      rcases k with ⟨k, _⟩ | ⟨k, _⟩
      · rw [k]
      · rw [k, xor_one_div]
    · exact h1
  rcases k with ⟨_, k⟩ | ⟨_, k⟩ <;> omega
end
section
variable {s : List Nat} (hs : IsPerm s) (he : s.length % 2 = 0)
include hs he
theorem mem_rest {root d : Nat} (hr : root < s.length) : d ∈ restTo (partsL s) root s.length ↔ d < s.length ∧ ¬ Con s root d ∧ Least (Con s) d := by
  have hrel := (partsL_ord hs he).rel
  unfold restTo
  rw [List.mem_filter, List.mem_range, firstB_iff]
  constructor
  · rintro ⟨h1, h2, h3⟩
    exact ⟨h1, fun hc => h2 ((hrel _ _ hr h1).2 hc).symm, fun y hy hc => h3 y hy ((hrel _ _ (by omega) h1).2 hc)⟩
  · rintro ⟨h1, h2, h3⟩
    exact ⟨h1, fun hc => h2 ((hrel _ _ hr h1).1 hc.symm), fun y hy hc => h3 y hy ((hrel _ _ (by omega) h1).1 hc)⟩
theorem hasE_walk {A : List Nat} (hA : ∀ a, a ∈ A → a < s.length) {x : Nat} (hx : x < s.length) : hasE (fstL [] (A.flatMap (walkD s))) x = true ↔ ∃ a, a ∈ A ∧ Con s a x := by
  have hper := Con.per hs
  rw [hasE_fst]
  constructor
  · rintro (h | ⟨d, hd, e⟩)
    · simp [hasE] at h
    · obtain ⟨a, ha, hm⟩ := List.mem_flatMap.1 hd
      have hc := (mem_walkD hs he (hA a ha)).1 hm
      refine ⟨a, ha, ?_⟩
      rcases half_eq e.symm with k | k
      · rw [k]; exact hc
      · rw [k]; exact hper.trans hc (Con.mate hs he (hper.cod hc))
  · rintro ⟨a, ha, hc⟩
    exact Or.inr ⟨x, List.mem_flatMap.2 ⟨a, ha, (mem_walkD hs he (hA a ha)).2 hc⟩, rfl⟩
/-- the names behind those of the parts that stand ahead -/
theorem can_block {root : Nat} (hr : root < s.length) {A B : List Nat} {r : Nat} (hsp : rootsL s root = A ++ r :: B) :
    ∃ g, at' (canL s root) r = g ∧ (∀ x, x < s.length → (∃ a, a ∈ A ∧ Con s a x) → at' (canL s root) x < g) ∧ (∀ x, x < s.length → ¬ (∃ a, a ∈ A ∧ Con s a x) → g ≤ at' (canL s root) x) := by
  have hper := Con.per hs
  have hlt := rootsL_lt hr
  have hA : ∀ a, a ∈ A → a < s.length := fun a ha => hlt a (by rw [hsp]; exact List.mem_append_left _ ha)
  have hrl : r < s.length := hlt r (by rw [hsp]; simp)
  have hnd : (rootsL s root).Pairwise fun a b => ¬ Con s a b := by
    unfold rootsL
    rw [List.pairwise_cons]
    refine ⟨fun d hd => ((mem_rest hs he hr).1 hd).2.1, ?_⟩
    have h1 : (restTo (partsL s) root s.length).Pairwise (· < ·) := List.pairwise_lt_range.filter _
    refine List.Pairwise.imp_of_mem (fun {a b} ha hb hab hc => ?_) h1
    exact ((mem_rest hs he hr).1 hb).2.2 a hab hc
  rw [hsp, List.pairwise_append] at hnd
  have hno : ¬ ∃ a, a ∈ A ∧ Con s a r := fun ⟨a, ha, hc⟩ => hnd.2.2 a ha r List.mem_cons_self hc
  obtain ⟨G, hG⟩ : ∃ G, fstL [] (A.flatMap (walkD s)) = G := ⟨_, rfl⟩
  have hh : ∀ x, x < s.length → (hasE G x = true ↔ ∃ a, a ∈ A ∧ Con s a x) := fun x hx => by rw [← hG]; exact hasE_walk hs he hA hx
  have hp := (wlen hs he hrl (V := (sizesL s).length) (Nat.le_refl _)).2.1
  obtain ⟨p, hpp⟩ : ∃ p, partC' s r = p + 1 := ⟨partC' s r - 1, by omega⟩
  obtain ⟨l0, hw⟩ : ∃ l0, walkD s r = r :: l0 := by
    unfold walkD
    rw [hpp, List.range_succ_eq_map]
    exact ⟨_, rfl⟩
  have hF : ∃ l, canF s root = G ++ r :: l := by
    unfold canF canD
    rw [if_neg (by omega), hsp, List.flatMap_append, List.flatMap_cons, hw]
    show ∃ l, List.foldl fstAdd [] _ = _
    rw [List.foldl_append]
    show ∃ l, List.foldl fstAdd (fstL [] _) _ = _
    rw [hG]
    show ∃ l, fstL (fstAdd G r) (l0 ++ _) = _
    have e1 : fstAdd G r = G ++ [r] := by unfold fstAdd; rw [if_neg (fun k => hno ((hh r hrl).1 k))]
    rw [e1]
    obtain ⟨l, hl⟩ := fst_ext (l0 ++ B.flatMap (walkD s)) (G ++ [r])
    exact ⟨l, by rw [hl]; simp⟩
  obtain ⟨l, hF⟩ := hF
  have hok := canF_ok hs he hr
  have hall := canF_all hs he hr
  rw [hF] at hok hall
  have hc : ∀ x, x < s.length → at' (canL s root) x = nmF (G ++ r :: l) x := fun x hx => by unfold canL; rw [canP_at hx, hF]
  refine ⟨2 * G.length, ?_, fun x hx ha => ?_, fun x hx ha => ?_⟩
  · rw [hc r hrl]
    have := nm_at hok (i := G.length) (by simp)
    rw [show at' (G ++ r :: l) G.length = r by simp [at', List.getD]] at this
    exact this
  · rw [hc x hx]; exact nm_old hok ((hh x hx).2 ha)
  · rw [hc x hx]; exact nm_new hok (fun k => ha ((hh x hx).1 k)) (hall x hx)
/-- so the canonical map is walked from the same places -/
theorem roots_can {root : Nat} (hr : root < s.length) : rootsL (relL s (canL s root)) (at' (canL s root) root) = (rootsL s root).map (at' (canL s root)) := by
  have ht := canL_perm hs he hr
  have hm := canL_mates hs he hr
  have hl : (canL s root).length = s.length := canP_length _ _
  have hp := relL_perm hs ht hl
  have hrl := relL_length s (canL s root)
  have hb := fun A B r => can_block hs he hr (A := A) (B := B) (r := r)
  obtain ⟨t, htt⟩ : ∃ t, canL s root = t := ⟨_, rfl⟩
  rw [htt] at ht hm hl hp hrl hb ⊢
  have hper := Con.per hs
  have hlt : ∀ x, x < s.length → at' t x < s.length := fun x hx => by have := ht.lt (i := x) (by rw [hl]; exact hx); omega
  have hcr := fun x y (hx : x < s.length) (hy : y < s.length) => con_rel hs he ht hl hm hx hy
  have hmem : ∀ d, d ∈ restTo (partsL s) root s.length ↔ d < s.length ∧ ¬ Con s root d ∧ Least (Con s) d := fun d => mem_rest hs he hr
  have hpw : (restTo (partsL s) root s.length).Pairwise (· < ·) := List.pairwise_lt_range.filter _
  have hrL : rootsL s root = root :: restTo (partsL s) root s.length := rfl
  show _ :: _ = List.map _ (_ :: _)
  rw [List.map_cons]
  congr 1
  obtain ⟨L, hL⟩ : ∃ L, restTo (partsL s) root s.length = L := ⟨_, rfl⟩
  rw [hL] at hmem hpw hrL ⊢
  refine rise_eq _ _ (List.pairwise_lt_range.filter _) ?_ fun y => ?_
  · rw [List.pairwise_map, List.pairwise_iff_getElem]
    intro i j hi hj hij
    have hsp : rootsL s root = (root :: L.take j) ++ L[j] :: L.drop (j + 1) := by
      rw [hrL, List.cons_append]
      congr 1
      rw [← List.drop_eq_getElem_cons hj, List.take_append_drop]
    obtain ⟨g, h1, h2, _⟩ := hb _ _ _ hsp
    rw [h1]
    have hin : L[i] < s.length := ((hmem _).1 (List.getElem_mem _)).1
    refine h2 _ hin ⟨L[i], List.mem_cons_of_mem _ ?_, hper.refl hin⟩
    rw [List.mem_take_iff_getElem]
    exact ⟨i, by omega, rfl⟩
  · rw [mem_rest hp (by rw [hrl]; exact he) (by rw [hrl]; exact hlt root hr), hrl, List.mem_map]
    constructor
    · rintro ⟨h1, h2, h3⟩
      obtain ⟨x, hx, rfl⟩ := ht.surj (y := y) (by rw [hl]; exact h1)
      rw [hl] at hx
      obtain ⟨r, hrm, hc⟩ := rootsL_all hs he hr hx
      have hrm0 := hrm
      rw [hrL] at hrm0
      rcases List.mem_cons.1 hrm0 with rfl | hrm'
      · exact absurd ((hcr _ _ hr hx).1 hc) h2
      · obtain ⟨A, B, hsp⟩ := List.append_of_mem hrm
        obtain ⟨g, k1, k2, k3⟩ := hb A B r hsp
        have hrn := rootsL_lt hr r hrm
        have hnr : ¬ ∃ a, a ∈ A ∧ Con s a x := by
          rintro ⟨a, ha, hca⟩
          have han := rootsL_lt hr a (by rw [hsp]; exact List.mem_append_left _ ha)
          have := k2 r hrn ⟨a, ha, hper.trans hca (hper.symm hc)⟩
          omega
        have hge := k3 x hx hnr
        rcases Nat.lt_or_ge (at' t r) (at' t x) with h4 | h4
        · exact absurd ((hcr _ _ hrn hx).1 hc) (h3 _ h4)
        · exact ⟨r, hrm', by omega⟩
    · rintro ⟨r, hrm, rfl⟩
      obtain ⟨hrn, h2, h3⟩ := (hmem r).1 hrm
      refine ⟨hlt r hrn, fun k => h2 ((hcr _ _ hr hrn).2 k), fun z hz k => ?_⟩
      have hzn : z < s.length := by have := hlt r hrn; omega
      obtain ⟨x, hx, rfl⟩ := ht.surj (y := z) (by rw [hl]; exact hzn)
      rw [hl] at hx
      have hc := (hcr _ _ hx hrn).2 k
      obtain ⟨A, B, hsp⟩ := List.append_of_mem (by rw [hrL]; exact List.mem_cons_of_mem root hrm : r ∈ rootsL s root)
      obtain ⟨g, k1, k2, k3⟩ := hb A B r hsp
      have hnr : ¬ ∃ a, a ∈ A ∧ Con s a x := by
        rintro ⟨a, ha, hca⟩
        have := k2 r hrn ⟨a, ha, hper.trans hca hc⟩
        omega
      have := k3 x hx hnr
      omega
/-- the canonical map's names are its own -/
theorem can_can {root : Nat} (hr : root < s.length) : canL (relL s (canL s root)) 0 = List.range s.length := by
  have ht := canL_perm hs he hr
  have hm := canL_mates hs he hr
  have hl : (canL s root).length = s.length := canP_length _ _
  have hrl := relL_length s (canL s root)
  have hcl : ∀ x r, (canL x r).length = x.length := fun x r => canP_length _ _
  refine eq_at (by rw [hcl, hrl, List.length_range]) fun j hj => ?_
  have hjn : j < s.length := by rw [hcl, hrl] at hj; exact hj
  obtain ⟨d, hd, e⟩ := ht.surj (y := j) (by rw [hl]; exact hjn)
  rw [hl] at hd
  have := canL_rel hs he ht hl hm hr (roots_can hs he hr) hd
  rw [canL_root hs he hr, e] at this
  rw [this]
  simp [at', hjn]
end
theorem invL_range (n : Nat) : ∀ j, j < n → at' (invL (List.range n)) j = j := fun j hj => by
  have h := range_perm n
  have hj' : j < (List.range n).length := by simpa using hj
  have := invL_at h hj'
  rwa [show at' (List.range n) j = j by simp [at', hj]] at this
/-- by their own names -/
theorem rel_range {s : List Nat} (hs : IsPerm s) : relL s (List.range s.length) = s := by
  refine eq_at (relL_length _ _) fun j hj => ?_
  rw [relL_length] at hj
  rw [relL_at hj, invL_range _ j hj]
  have h1 := hs.lt hj
  obtain ⟨y, hy⟩ : ∃ y, at' s j = y := ⟨_, rfl⟩
  rw [hy] at h1 ⊢
  simp [at', h1]

end Go.Proofs.YtklkgicjfnbndaaGreat

namespace Go.Proofs.YtklkgicjfnbndaaGreat
set_option linter.unusedVariables false

structure SimV (s : List Nat) (V : Nat) (a b : WSt) : Prop where
  lt : a.d < s.length
  d : b.d = a.d
  ed : b.ed = a.ed
  ml : a.mt.length = (sizesL s).length
  ml' : b.mt.length = V
  mt : ∀ v, v < (sizesL s).length → getB b.mt v = getB a.mt v
section
variable {s : List Nat} (hs : IsPerm s) (he : s.length % 2 = 0) {V : Nat} (hV : (sizesL s).length ≤ V)
include hs he hV
theorem SimV.next {a b : WSt} (h : SimV s V a b) : SimV s V (wnext s a) (wnext s b) := by
  have hxl := xor_one_lt he h.lt
  have hv := vtx_lt hs hxl
  have hk : wkind s b = wkind s a := by
    unfold wkind
    rw [h.d, h.ed, h.mt _ hv]
  refine ⟨?_, ?_, ?_, ?_, ?_, fun v hvl => ?_⟩
  · show wdart s a < s.length
    unfold wdart
    split
    · exact hs.lt hxl
    · exact hs.lt h.lt
  · show wdart s b = wdart s a
    unfold wdart
    rw [hk, h.d]
  · show wed s b = wed s a
    unfold wed
    rw [hk, h.d, h.ed]
  · show (wmt s a).length = _
    unfold wmt; split <;> simp [h.ml]
  · show (wmt s b).length = _
    unfold wmt; split <;> simp [h.ml']
  · show getB (wmt s b) v = getB (wmt s a) v
    unfold wmt
    rw [hk, h.d]
    split
    · rw [getB_set (by rw [h.ml']; omega), getB_set (by rw [h.ml]; exact hv), h.mt v hvl]
    · exact h.mt v hvl
theorem SimV.all {root : Nat} (hr : root < s.length) : ∀ i, SimV s V (wst s (sizesL s).length root i) (wst s V root i)
  | 0 => by
    have hv := vtx_lt hs hr
    refine ⟨hr, rfl, rfl, by simp [wst], by simp [wst], fun v hvl => ?_⟩
    show getB (List.set (List.replicate _ _) _ _) _ = getB (List.set (List.replicate _ _) _ _) _
    rw [getB_set (by rw [List.length_replicate]; omega), getB_set (by rw [List.length_replicate]; exact hv)]
    have hf : ∀ (n i : Nat), getB (List.replicate n false) i = false := fun n i => by
      unfold getB
      by_cases h : i < n <;> simp [h]
    rw [hf, hf]
  | i + 1 => (SimV.all hr i).next hs he hV
theorem wd_V {root : Nat} (hr : root < s.length) (i : Nat) : wd s V root i = wd s (sizesL s).length root i := (SimV.all hs he hV hr i).d
end

/-- as the code finds them, part by part -/
def rootsP (s : List Nat) (f : Int) (i : Nat) : List Nat := ((List.range i).filter fun (k : Nat) => decide ((k : Int) ≠ f ∧ k < partsN s)).map fun (k : Nat) => rootOf (partsL s) (k : Int)
theorem rootsP_succ (s : List Nat) (f : Int) (i : Nat) : rootsP s f (i + 1) = if (i : Int) ≠ f ∧ i < partsN s then rootsP s f i ++ [rootOf (partsL s) (i : Int)] else rootsP s f i := by
  unfold rootsP
  rw [List.range_succ, List.filter_append]
  by_cases h : (i : Int) ≠ f ∧ i < partsN s
  · rw [if_pos h, List.map_append]; simp [h]
  · rw [if_neg h, List.map_append]; simp [h]
theorem rootsP_all {s : List Nat} (hs : IsPerm s) (he : s.length % 2 = 0) {root : Nat} (hr : root < s.length) (l : Nat) : rootsP s (nth (partsL s) root) (partsN s + l) = restTo (partsL s) root s.length := by
  have ho := partsL_ord hs he
  have hcn : (partsGo s s.length).2 = partsN s := rfl
  have hget : ∀ k, k < partsN s → ∃ j, j < s.length ∧ nth (partsL s) j = k ∧ (partsGo s j).2 = k ∧ rootOf (partsL s) (k : Int) = j := fun k hk => by
    obtain ⟨j, hj, h1, h2⟩ := ho.has (Nat.le_refl _) k (by rw [hcn]; exact hk)
    refine ⟨j, hj, h1, h2, rootOf_eq (by rw [ho.len]; exact hj) h1 fun i hi => ?_⟩
    have := ho.first hj (by rw [h1, h2]) i hi
    rwa [h2] at this
  refine rise_eq _ _ ?_ (List.pairwise_lt_range.filter _) fun x => ?_
  · unfold rootsP
    rw [List.pairwise_map]
    refine List.Pairwise.imp_of_mem (fun {a b} ha hb hab => ?_) (List.pairwise_lt_range.filter _)
    have ha := (List.mem_filter.1 ha).2
    have hb := (List.mem_filter.1 hb).2
    simp only [decide_eq_true_eq] at ha hb
    obtain ⟨j, hj, _, h2, h3⟩ := hget a ha.2
    obtain ⟨j', hj', _, h2', h3'⟩ := hget b hb.2
    rw [h3, h3']
    rcases Nat.lt_or_ge j j' with h | h
    · exact h
    · have := ho.mono h (Nat.le_of_lt hj)
      omega
  · rw [mem_rest hs he hr]
    unfold rootsP
    rw [List.mem_map]
    constructor
    · rintro ⟨k, hk, rfl⟩
      have hk := (List.mem_filter.1 hk).2
      simp only [decide_eq_true_eq] at hk
      obtain ⟨j, hj, h1, h2, h3⟩ := hget k hk.2
      rw [h3]
      refine ⟨hj, fun hc => hk.1 ?_, (ho.least hj).2 (by rw [h1, h2])⟩
      rw [← h1]
      exact ((ho.rel _ _ hr hj).2 hc).symm
    · rintro ⟨hx, h1, h2⟩
      have h3 := (ho.least hx).1 h2
      have hb := (ho.bound hx).2
      have hm := ho.mono (k := x + 1) (l := s.length) (by omega) (Nat.le_refl _)
      have hkP : (partsGo s x).2 < partsN s := by rw [← hcn]; omega
      obtain ⟨j, hj, k1, k2, k3⟩ := hget _ hkP
      refine ⟨(partsGo s x).2, List.mem_filter.2 ⟨List.mem_range.2 (by omega), ?_⟩, ?_⟩
      · simp only [decide_eq_true_eq]
        refine ⟨fun e => h1 ((ho.rel _ _ hr hx).1 ?_), hkP⟩
        rw [h3]; exact e.symm
      · refine rootOf_eq (by rw [ho.len]; exact hx) h3 fun i hi => ?_
        have := ho.first hx h3 i hi
        exact this

end Go.Proofs.YtklkgicjfnbndaaGreat
