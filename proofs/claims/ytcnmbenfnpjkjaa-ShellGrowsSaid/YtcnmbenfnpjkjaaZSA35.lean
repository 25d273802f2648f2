/- A leaf, a chord, a split keep the genus and the parts. Plain law. Conditions: the list is a turn, the darts are there; a chord's two corners are of one face. A chord, a star keep the genus and the parts. Plain law. Conditions: the list is a turn, the darts are there; a chord's two corners are of one face. A star keeps the genus and the parts: a vertex more, and a face less than the face is long. Plain law. Conditions: the list is a turn, the dart is there. -/
import Derived.Test.YtcnmbenfnpjkjaaZSA29
namespace Go.Proofs.Ytcnmbenfnpjkjaa
set_option linter.unusedVariables false

/-- as many parts; so many vertices and faces more -/
structure GrownL (s t : List Nat) (v f : Int) : Prop where
  perm : IsPerm t
  even : t.length % 2 = 0
  parts : partsN t = partsN s
  vs : ((sizesL t).length : Int) = (sizesL s).length + v
  fs : ((sizesL (phiL t)).length : Int) = (sizesL (phiL s)).length + f
  es : ((t.length / 2 : Nat) : Int) = ((s.length / 2 : Nat) : Int) + (v + f)
theorem GrownL.genus {s t : List Nat} {v f : Int} (h : GrownL s t v f) (hs : IsPerm s) (hes : s.length % 2 = 0) : genusL t = genusL s := genus_grow hs hes h.perm h.even h.parts h.vs h.fs h.es
theorem insF_t (f : Nat → Nat) (t d : Nat) : insF f t d t = d := by unfold insF; rw [if_pos rfl]
theorem insF_d {f : Nat → Nat} {t d : Nat} (h : d ≠ t) : insF f t d d = f t := by unfold insF; rw [if_neg h, if_pos rfl]
theorem insF_o {f : Nat → Nat} {t d x : Nat} (h : x ≠ t) (h2 : x ≠ d) : insF f t d x = f x := by unfold insF; rw [if_neg h, if_neg h2]
theorem delF_d {f : Nat → Nat} {d x : Nat} (h : f x = d) : delF f d x = f d := by unfold delF; rw [if_pos h]
theorem delF_o {f : Nat → Nat} {d x : Nat} (h : f x ≠ d) : delF f d x = f x := by unfold delF; rw [if_neg h]
theorem xor_add {n k : Nat} (hn : n % 2 = 0) (h : k < 2) : (n + k) ^^^ 1 = n + (1 - k) := by
  rw [xor_one]
  split <;> omega
theorem lists_phi {s : List Nat} (hs : IsPerm s) (hes : s.length % 2 = 0) : (listsL (phiL s) s.length).length = (sizesL (phiL s)).length := by
  have := lists_count (phiL_perm hs hes)
  rwa [phiL_length] at this
theorem lists_phi_ne {s : List Nat} (hs : IsPerm s) (hes : s.length % 2 = 0) : ∀ v, v ∈ listsL (phiL s) s.length → v ≠ [] := by
  have := lists_ne (phiL_perm hs hes)
  rwa [phiL_length] at this
section
variable {s : List Nat} (hs : IsPerm s) (hes : s.length % 2 = 0) {d : Nat} (hd : d < s.length)
include hs hes hd
end
section
variable {s : List Nat} (hs : IsPerm s) (hes : s.length % 2 = 0) {d m : Nat} (hm : d ^^^ 1 = m) (hd : d < s.length)
include hs hes hm hd
end
end Go.Proofs.Ytcnmbenfnpjkjaa

namespace Go.Proofs.Ytcnmbenfnpjkjaa
set_option linter.unusedVariables false

theorem face_con {s : List Nat} (hs : IsPerm s) (hes : s.length % 2 = 0) {x y : Nat} (h : cyc s.length (at' (phiL s)) x y) : Con s x y := by
  have hp := (phiL_perm hs hes).pm
  rw [phiL_length] at hp
  have ps := Con.per hs
  refine hp.cyc_sub ps (fun z hz => ?_) h
  rw [phiL_at hz]
  exact ps.trans (Con.mate hs hes hz) (Con.step hs (xor_one_lt hes hz))
theorem orbit_at {s : List Nat} (hs : IsPerm s) {k : Nat} (hk : k < s.length) {j : Nat} (hj : j < (orbitL s k).length) : at' s (at' (orbitL s k) j) = at' (orbitL s k) (nextI (orbitL s k).length j) := by
  obtain ⟨c, hc, hcl, he⟩ := orbitL_map hs hk
  have hl : (orbitL s k).length = c := by rw [he]; simp
  have ha : ∀ j, j < c → at' (orbitL s k) j = it s j k := fun j hj => by rw [he]; simp [at', hj]
  have hsucc : ∀ j, it s (j + 1) k = at' s (it s j k) := fun j => by rw [it_itf, it_itf, itf_succ]
  rw [hl] at hj ⊢
  unfold nextI
  by_cases e : j + 1 < c
  · rw [if_pos e, ha j hj, ha _ e, hsucc]
  · rw [if_neg e, ha j hj, ha 0 hc, ← hsucc, show j + 1 = c by omega, hcl]
    rfl
section
variable {s : List Nat} (hs : IsPerm s) (hes : s.length % 2 = 0) {d e : Nat} (hd : d < s.length) (he : e < s.length)
include hs hes hd he
end
end Go.Proofs.Ytcnmbenfnpjkjaa

namespace Go.Proofs.Ytcnmbenfnpjkjaa
set_option linter.unusedVariables false

def triL (s O : List Nat) (j : Nat) : List Nat := [at' O j, s.length + 2 * nextI O.length j, s.length + 2 * j + 1]
def trisL (s O : List Nat) : Nat → List (List Nat)
  | 0 => []
  | i + 1 => trisL s O i ++ [triL s O i]
theorem trisL_length (s O : List Nat) : ∀ i, (trisL s O i).length = i
  | 0 => rfl
  | i + 1 => by unfold trisL; rw [List.length_append, trisL_length s O i]; rfl
theorem trisL_ne (s O : List Nat) : ∀ i v, v ∈ trisL s O i → v ≠ []
  | 0, v, h => by cases h
  | i + 1, v, h => by
    unfold trisL at h
    rcases List.mem_append.1 h with h | h
    · exact trisL_ne s O i v h
    · rw [List.mem_singleton.1 h]; unfold triL; simp
theorem nextI_lt {n j : Nat} (h : j < n) : nextI n j < n := by unfold nextI; split <;> omega
theorem nextI_inj {n i j : Nat} (hi : i < n) (hj : j < n) (h : nextI n i = nextI n j) : i = j := by
  unfold nextI at h
  split at h <;> split at h <;> omega
theorem nextI_back {n j : Nat} (hj : j < n) : (nextI n j + n - 1) % n = j := by
  unfold nextI
  split
  · rw [show j + 1 + n - 1 = j + n by omega, Nat.add_mod_right, Nat.mod_eq_of_lt hj]
  · rw [Nat.zero_add, Nat.mod_eq_of_lt (by omega)]; omega
theorem star_phi_in {s O : List Nat} (hes : s.length % 2 = 0) {j : Nat} (hj : j < O.length) : at' (phiL (starC s O)) (s.length + 2 * nextI O.length j) = s.length + 2 * j + 1 := by
  have hn := nextI_lt hj
  have e : (s.length + 2 * nextI O.length j) ^^^ 1 = s.length + 2 * nextI O.length j + 1 := xor_add (n := s.length + 2 * nextI O.length j) (k := 0) (by omega) (by omega)
  rw [phiL_at (by rw [starC_length]; omega), e, starC_at (by omega)]
  unfold starF
  rw [if_neg (by omega), if_neg (by omega), show (s.length + 2 * nextI O.length j + 1 - s.length) / 2 = nextI O.length j by omega, nextI_back hj]
theorem star_phi_out {s O : List Nat} (hes : s.length % 2 = 0) {j : Nat} (hj : j < O.length) : at' (phiL (starC s O)) (s.length + 2 * j + 1) = at' O j := by
  have e : (s.length + 2 * j + 1) ^^^ 1 = s.length + 2 * j := xor_add (n := s.length + 2 * j) (k := 1) (by omega) (by omega)
  rw [phiL_at (by rw [starC_length]; omega), e, starC_at (by omega)]
  unfold starF
  rw [if_neg (by omega), if_pos (by omega), show (s.length + 2 * j - s.length) / 2 = j by omega]
theorem starLs_length {s O : List Nat} (hs : IsPerm s) : ∀ i, (starLs s O i).length = (sizesL s).length
  | 0 => lists_count hs
  | i + 1 => by unfold starLs; rw [outL_len]; exact starLs_length hs i
theorem starLs_ne {s O : List Nat} (hs : IsPerm s) : ∀ i v, v ∈ starLs s O i → v ≠ []
  | 0, v, h => lists_ne hs v h
  | i + 1, v, h => after_ne (starLs_ne hs i) v h
section
variable {s : List Nat} (hs : IsPerm s) (hes : s.length % 2 = 0) {d : Nat} (hd : d < s.length) {O : List Nat} (hO : orbitL (phiL s) d = O)
include hs hes hd hO
theorem star_face : O.Nodup ∧ (∀ x, x ∈ O → x < s.length) ∧ 0 < O.length ∧ (∀ j, j < O.length → at' (phiL s) (at' O j) = at' O (nextI O.length j)) ∧ (∀ x, x < s.length → (at' (phiL s) x ∈ O ↔ x ∈ O)) ∧ ∀ x, x ∈ O → Con s d x := by
  have hp := phiL_perm hs hes
  have hpl := phiL_length s
  have hdp : d < (phiL s).length := by rw [hpl]; exact hd
  subst hO
  refine ⟨orbitL_nodup hp hdp, fun x hx => by rw [← hpl]; exact orbitL_lt hp hdp x hx, ?_, fun j hj => orbit_at hp hdp hj, fun x hx => hp.orbit_next hdp (by rw [hpl]; exact hx), fun x hx => ?_⟩
  · exact Nat.succ_pos _
  · obtain ⟨j, rfl⟩ := (hp.mem_orbit hdp).1 hx
    refine face_con hs hes ⟨hd, ?_, j, (it_itf _ _ _).symm⟩
    rw [← hpl]; exact hp.it_lt hdp j
theorem star_phi_old {y : Nat} (hy : y < s.length) (ho : y ∉ O) : at' (phiL (starC s O)) y = at' (phiL s) y := by
  obtain ⟨k1, k2, k3, k4, k5, _⟩ := star_face hs hes hd hO
  have hyx := xor_one_lt hes hy
  rw [phiL_at (by rw [starC_length]; omega), starC_at (by omega), phiL_at hy]
  unfold starF
  rw [if_pos hyx, if_neg]
  rw [← phiL_at hy]
  exact fun h => ho ((k5 y hy).1 h)
theorem star_phi_edge {j : Nat} (hj : j < O.length) : at' (phiL (starC s O)) (at' O j) = s.length + 2 * nextI O.length j := by
  obtain ⟨k1, k2, k3, k4, k5, _⟩ := star_face hs hes hd hO
  have hy := k2 (at' O j) (by rw [at'_eq hj]; exact List.getElem_mem _)
  have hyx := xor_one_lt hes hy
  rw [phiL_at (by rw [starC_length]; omega), starC_at (by omega)]
  unfold starF
  have e : at' s (at' O j ^^^ 1) = at' O (nextI O.length j) := by rw [← phiL_at hy, k4 j hj]
  have hn := nextI_lt hj
  rw [if_pos hyx, e, if_pos (by rw [at'_eq hn]; exact List.getElem_mem _), idx_at k1 hn]
theorem star_tris {D : Nat → Prop} {xss : List (List Nat)} (h : RowsF xss D (at' (phiL (starC s O)))) (hD : ∀ y, D y → y < s.length ∧ y ∉ O) : ∀ i, i ≤ O.length →
    RowsF (xss ++ trisL s O i) (fun y => D y ∨ ∃ j, j < i ∧ y ∈ triL s O j) (at' (phiL (starC s O)))
  | 0, _ => by
    unfold trisL
    rw [List.append_nil]
    exact h.congr (fun y => ⟨Or.inl, fun h => h.elim id fun ⟨j, h, _⟩ => by omega⟩) fun _ _ => rfl
  | i + 1, hi => by
    obtain ⟨k1, k2, k3, k4, k5, _⟩ := star_face hs hes hd hO
    have ih := star_tris h hD i (by omega)
    have hil : i < O.length := by omega
    have hn := nextI_lt hil
    have ho : at' O i ∈ O := by rw [at'_eq hil]; exact List.getElem_mem _
    have hol := k2 _ ho
    unfold trisL
    rw [← List.append_assoc]
    refine (ih.more (v := triL s O i) ?_ (fun x hx => ?_) ?_ fun _ _ => rfl).congr (fun y => ?_) fun _ _ => rfl
    · unfold triL; simp; omega
    · rintro (h1 | ⟨j, hj, h1⟩)
      · obtain ⟨h2, h3⟩ := hD x h1
        unfold triL at hx
        simp only [List.mem_cons, List.not_mem_nil, or_false] at hx
        rcases hx with rfl | h4 | h4
        · exact h3 ho
        · omega
        · omega
      · unfold triL at hx h1
        simp only [List.mem_cons, List.not_mem_nil, or_false] at hx h1
        have hjl : j < O.length := by omega
        have hjo := k2 _ (show at' O j ∈ O by rw [at'_eq hjl]; exact List.getElem_mem _)
        have c1 : at' O i ≠ at' O j := fun e => by
          rw [at'_eq hil, at'_eq hjl] at e
          have := nodup_inj k1 _ _ e
          omega
        have c2 : nextI O.length i ≠ nextI O.length j := fun e => by
          have := nextI_inj hil hjl e
          omega
        rcases hx with rfl | rfl | rfl <;> rcases h1 with h1 | h1 | h1 <;> omega
    · exact Cy.ch.2 ⟨star_phi_edge hs hes hd hO hil, star_phi_in hes hil, star_phi_out hes hil⟩
    · constructor
      · rintro ((h | ⟨j, h1, h2⟩) | h)
        · exact Or.inl h
        · exact Or.inr ⟨j, by omega, h2⟩
        · exact Or.inr ⟨i, by omega, h⟩
      · rintro (h | ⟨j, h1, h2⟩)
        · exact Or.inl (Or.inl h)
        · by_cases e : j = i
          · exact Or.inr (e ▸ h2)
          · exact Or.inl (Or.inr ⟨j, by omega, h2⟩)
theorem star_faces : ∃ xss : List (List Nat), RowsOf (xss ++ trisL s O O.length) (phiL (starC s O)) ∧ (∀ v, v ∈ xss → v ≠ []) ∧ xss.length + 1 = (sizesL (phiL s)).length := by
  obtain ⟨k1, k2, k3, k4, k5, _⟩ := star_face hs hes hd hO
  have hp := phiL_perm hs hes
  have hpl := phiL_length s
  have h0 := lists_rowsF hp
  rw [hpl] at h0
  have hro := lists_rows hp
  rw [hpl] at hro
  obtain ⟨v, hv, hdv⟩ := List.mem_flatten.1 ((h0.mem d).2 hd)
  have hpe := List.perm_cons_erase hv
  have h1 := (h0.perm hpe).tail
  have hvO : ∀ y, y < s.length → (y ∈ v ↔ y ∈ O) := fun y hy => by
    have hc := hro.cyc hp (x := d) (y := y) (by rw [hpl]; exact hd) (by rw [hpl]; exact hy)
    rw [← hO, hp.mem_orbit (by rw [hpl]; exact hd)]
    constructor
    · intro h
      obtain ⟨_, _, j, e⟩ := hc.2 ⟨v, hv, hdv, h⟩
      exact ⟨j, by rw [it_itf]; exact e⟩
    · rintro ⟨j, e⟩
      obtain ⟨u, hu, h4, h5⟩ := hc.1 ⟨by rw [hpl]; exact hd, by rw [hpl]; exact hy, j, by rw [← it_itf]; exact e⟩
      have := h0.uni hu hv h4 hdv
      subst this
      exact h5
  have h2 := h1.congr (E := fun y => y < s.length ∧ y ∉ O) (g := at' (phiL (starC s O))) (fun y => ⟨fun h => ⟨h.1, fun ho => h.2 ((hvO y h.1).2 ho)⟩, fun h => ⟨h.1, fun ho => h.2 ((hvO y h.1).1 ho)⟩⟩) (fun y hy => star_phi_old hs hes hd hO hy.1 (fun ho => hy.2 ((hvO y hy.1).2 ho)))
  have h3 := star_tris hs hes hd hO h2 (fun y hy => hy) O.length (Nat.le_refl _)
  have hne := lists_phi_ne hs hes
  refine ⟨(listsL (phiL s) s.length).erase v, h3.rows (fun y => ?_) (fun y _ => rfl), fun u hu => hne u (List.mem_of_mem_erase hu), ?_⟩
  · rw [phiL_length, starC_length]
    constructor
    · rintro (h | ⟨j, hj, h⟩)
      · omega
      · unfold triL at h
        simp only [List.mem_cons, List.not_mem_nil, or_false] at h
        have hn := nextI_lt hj
        have hjo := k2 _ (show at' O j ∈ O by rw [at'_eq hj]; exact List.getElem_mem _)
        rcases h with h | h | h <;> omega
    · intro h
      by_cases c1 : y < s.length
      · by_cases c2 : y ∈ O
        · obtain ⟨j, hj, e⟩ := List.getElem_of_mem c2
          refine Or.inr ⟨j, hj, ?_⟩
          unfold triL
          rw [at'_eq hj, e]
          exact List.mem_cons_self ..
        · exact Or.inl ⟨c1, c2⟩
      · by_cases c2 : (y - s.length) % 2 = 0
        · obtain ⟨i, hi⟩ : ∃ i, (y - s.length) / 2 = i := ⟨_, rfl⟩
          have hil : i < O.length := by omega
          obtain ⟨j, hj, hji⟩ : ∃ j, j < O.length ∧ nextI O.length j = i := by
            by_cases c3 : i = 0
            · exact ⟨O.length - 1, by omega, by unfold nextI; rw [if_neg (by omega), c3]⟩
            · exact ⟨i - 1, by omega, by unfold nextI; rw [if_pos (by omega)]; omega⟩
          refine Or.inr ⟨j, hj, ?_⟩
          unfold triL
          rw [hji]
          simp only [List.mem_cons, List.not_mem_nil, or_false]
          omega
        · refine Or.inr ⟨(y - s.length) / 2, by omega, ?_⟩
          unfold triL
          simp only [List.mem_cons, List.not_mem_nil, or_false]
          omega
  · rw [List.length_erase_of_mem hv, lists_phi hs hes]
    have : 0 < (listsL (phiL s) s.length).length := List.length_pos_of_mem hv
    rw [lists_phi hs hes] at this
    omega
theorem star_grown : GrownL s (starC s O) 1 (O.length - 1) := by
  obtain ⟨k1, k2, k3, k4, k5, k6⟩ := star_face hs hes hd hO
  have hr := star_rows hs k1 k2 k3
  have ht := hr.isPerm
  have hl := starC_length s O
  have he : (starC s O).length % 2 = 0 := by rw [hl]; omega
  have pt := Con.per ht
  have ps := Con.per hs
  have mem : ∀ i, i < O.length → at' O i ∈ O := fun i hi => by rw [at'_eq hi]; exact List.getElem_mem _
  have val : ∀ x, x < s.length + 2 * O.length → at' (starC s O) x = starF s O x := fun x hx => starC_at hx
  have ev : ∀ i, i < O.length → at' (starC s O) (s.length + 2 * i) = at' O i := fun i hi => by
    rw [val _ (by omega)]; unfold starF
    rw [if_neg (by omega), if_pos (by omega), show (s.length + 2 * i - s.length) / 2 = i by omega]
  have od : ∀ i, i < O.length → at' (starC s O) (s.length + 2 * i + 1) = s.length + 2 * ((i + O.length - 1) % O.length) + 1 := fun i hi => by
    rw [val _ (by omega)]; unfold starF
    rw [if_neg (by omega), if_neg (by omega), show (s.length + 2 * i + 1 - s.length) / 2 = i by omega]
  have stp : ∀ x, x < s.length + 2 * O.length → Con (starC s O) x (at' (starC s O) x) := fun x hx => Con.step ht (by rw [hl]; exact hx)
  have cv : ∀ i, i < O.length → Con (starC s O) (at' O i) (s.length + 2 * i) := fun i hi => by
    have := stp (s.length + 2 * i) (by omega)
    rw [ev i hi] at this
    exact pt.symm this
  have me : ∀ i, (s.length + 2 * i) ^^^ 1 = s.length + 2 * i + 1 := fun i => xor_add (n := s.length + 2 * i) (k := 0) (by omega) (by omega)
  have mo : ∀ i, (s.length + 2 * i + 1) ^^^ 1 = s.length + 2 * i := fun i => xor_add (n := s.length + 2 * i) (k := 1) (by omega) (by omega)
  have split : ∀ x, x < s.length + 2 * O.length → x < s.length ∨ ∃ i, i < O.length ∧ (x = s.length + 2 * i ∨ x = s.length + 2 * i + 1) := fun x hx => by
    by_cases h : x < s.length
    · exact Or.inl h
    · exact Or.inr ⟨(x - s.length) / 2, by omega, by omega⟩
  obtain ⟨π, hπ⟩ : ∃ π : Nat → Nat, π = fun x => if x < s.length then x else at' O ((x - s.length) / 2) := ⟨_, rfl⟩
  have pold : ∀ x, x < s.length → π x = x := fun x hx => by rw [hπ]; exact if_pos hx
  have pe : ∀ i, π (s.length + 2 * i) = at' O i := fun i => by
    rw [hπ]
    show (if s.length + 2 * i < s.length then _ else _) = _
    rw [if_neg (by omega), show (s.length + 2 * i - s.length) / 2 = i by omega]
  have po : ∀ i, π (s.length + 2 * i + 1) = at' O i := fun i => by
    rw [hπ]
    show (if s.length + 2 * i + 1 < s.length then _ else _) = _
    rw [if_neg (by omega), show (s.length + 2 * i + 1 - s.length) / 2 = i by omega]
  refine ⟨ht, he, ?_, ?_, ?_, by rw [hl]; omega⟩
  · refine parts_grow hs hes ht he (by omega) π pold (fun x hx => ?_) (fun x hx => ?_) (fun x hx => ?_) (fun x hx => ?_) (fun x hx => ?_)
    · rw [hl] at hx
      rcases split x hx with h | ⟨i, hi, rfl | rfl⟩
      · rw [pold x h]; exact h
      · rw [pe]; exact k2 _ (mem i hi)
      · rw [po]; exact k2 _ (mem i hi)
    · rw [hl] at hx
      rcases split x hx with h | ⟨i, hi, rfl | rfl⟩
      · rw [val x hx, pold x h]
        unfold starF
        rw [if_pos h]
        by_cases h1 : at' s x ∈ O
        · have hi := List.idxOf_lt_length_of_mem h1
          rw [if_pos h1, pe, at'_eq hi, List.getElem_idxOf hi]
          exact Con.step hs h
        · rw [if_neg h1, pold _ (hs.lt h)]
          exact Con.step hs h
      · rw [ev i hi, pe, pold _ (k2 _ (mem i hi))]
        exact ps.refl (k2 _ (mem i hi))
      · have hm := Nat.mod_lt (i + O.length - 1) k3
        rw [od i hi, po, po]
        exact ps.trans (ps.symm (k6 _ (mem i hi))) (k6 _ (mem _ hm))
    · rw [hl] at hx
      rcases split x hx with h | ⟨i, hi, rfl | rfl⟩
      · rw [pold x h, pold _ (xor_one_lt hes h)]; exact Con.mate hs hes h
      · rw [me, pe, po]; exact ps.refl (k2 _ (mem i hi))
      · rw [mo, pe, po]; exact ps.refl (k2 _ (mem i hi))
    · have := stp x (by omega)
      rw [val x (by omega)] at this
      unfold starF at this
      rw [if_pos hx] at this
      by_cases h1 : at' s x ∈ O
      · have hi := List.idxOf_lt_length_of_mem h1
        rw [if_pos h1] at this
        have h2 := cv _ hi
        rw [at'_eq hi, List.getElem_idxOf hi] at h2
        exact pt.trans this (pt.symm h2)
      · rwa [if_neg h1] at this
    · rw [hl] at hx
      rcases split x hx with h | ⟨i, hi, rfl | rfl⟩
      · rw [pold x h]; exact pt.refl (by rw [hl]; exact hx)
      · rw [pe]; exact cv i hi
      · rw [po]
        have := Con.mate ht he (x := s.length + 2 * i) (by rw [hl]; omega)
        rw [me] at this
        exact pt.trans (cv i hi) this
  · rw [hr.count ht (fun v hv => by
      rcases List.mem_append.1 hv with hv | hv
      · exact starLs_ne hs _ v hv
      · rw [List.mem_singleton.1 hv]
        intro e
        have := hubL_length s.length O.length
        rw [e] at this
        simp at this
        omega), List.length_append, starLs_length hs]
    simp
  · obtain ⟨xss, h1, h2, h3⟩ := star_faces hs hes hd hO
    rw [h1.count (phiL_perm ht he) (fun v hv => (List.mem_append.1 hv).elim (h2 v) (trisL_ne s O _ v)), List.length_append, trisL_length]
    omega
end
end Go.Proofs.Ytcnmbenfnpjkjaa
