/- Shrunk, a map has as many parts, and the same genus. Conditions: none. A vertex's darts in order, without an edge's: each one's next is the map's that is left. Conditions: none. The document's lists, laid into a row, are the map that is left. Conditions: none. parquetryref10: name, from. Conditions: the map's list lies in memory, the dart is there. -/
import Derived.Test.YtklkgicjfnbndaaGreatZScriptSizes25
import Derived.Test.YtklkgicjfnbndaaGreatZScriptSizes26
namespace Go.Proofs.YtklkgicjfnbndaaGreat
set_option linter.unusedVariables false

theorem ex_con {s : List Nat} (hs : IsPerm s) (he : s.length % 2 = 0) {e x : Nat} (hx : x < s.length) : Con s x (at' (exL s e) x) := by
  rw [exL_at hx]
  by_cases ho : x / 2 = e
  · rw [exI_own ho]
    exact (Con.per hs).trans (Con.mate hs he hx) (Con.step hs (xor_one_lt he hx))
  · rw [exI_else ho]
    exact Con.step hs hx

section
variable {s : List Nat} (hs : IsPerm s) (he : s.length % 2 = 0) {e : Nat} (hn : 2 * e + 2 ≤ s.length) (hne : nth (namesL s) (2 * e) ≠ nth (namesL s) (2 * e + 1))
include hs he hn

theorem way_con {d y : Nat} (hd : d < s.length) (h : Way (exL s e) (fun x => x / 2 = e) d y) : Con s d y := by
  have hp := exL_perm hs hn
  have hl := exL_length s e
  induction h with
  | @one d _ => exact ex_con hs he hd
  | @more d y _ _ ih => exact (Con.per hs).trans (ex_con hs he hd) (ih (by have := hp.lt (i := d) (by rw [hl]; exact hd); rwa [hl] at this))
theorem shr_con_up {x y : Nat} (h : Con (doneL (exL s e) e) x y) : Con s (unL e x) (unL e y) := by
  have hp := exL_perm hs hn
  have hl := exL_length s e
  have hn2 : 2 * e + 2 ≤ (exL s e).length := by rw [hl]; exact hn
  have hdp := doneL_perm hp hn2
  have hdl : (doneL (exL s e) e).length = s.length - 2 := by rw [doneL_length, hl]
  have hq := Con.per hs
  have hr : Per (doneL (exL s e) e).length (fun x y => x < s.length - 2 ∧ y < s.length - 2 ∧ Con s (unL e x) (unL e y)) := by
    rw [hdl]
    exact ⟨fun h => ⟨h, h, hq.refl (unL_lt hn h)⟩, fun h => ⟨h.2.1, h.1, hq.symm h.2.2⟩, fun h k => ⟨h.1, k.2.1, hq.trans h.2.2 k.2.2⟩, fun h => h.1⟩
  refine (Con.sub hdp hr (fun z hz => ?_) (fun z hz => ?_) h).2.2
  · rw [hdl] at hz
    have hlt := hdp.lt (i := z) (by rw [hdl]; exact hz)
    rw [hdl] at hlt
    exact ⟨hz, hlt, way_con hs he hn (unL_lt hn hz) (done_way hp hn2 (by rw [hl]; exact hz))⟩
  · rw [hdl] at hz
    exact ⟨hz, xor_one_lt (by omega) hz, by rw [unL_mate]; exact Con.mate hs he (unL_lt hn hz)⟩
include hne
theorem shr_con_down {x y : Nat} (hx : x < s.length - 2) (hy : y < s.length - 2) (h : Con s (unL e x) (unL e y)) : Con (doneL (exL s e) e) x y := by
  have hp := exL_perm hs hn
  have hl := exL_length s e
  have hn2 : 2 * e + 2 ≤ (exL s e).length := by rw [hl]; exact hn
  have hdp := doneL_perm hp hn2
  have hdl : (doneL (exL s e) e).length = s.length - 2 := by rw [doneL_length, hl]
  have hq : Per s.length (cyc s.length (at' (exL s e))) := by have := hp.pm.per; rwa [hl] at this
  have hc := Con.per hdp
  rw [hdl] at hc
  have hcyc : ∀ z z', z < s.length - 2 → z' < s.length - 2 → cyc s.length (at' (exL s e)) (unL e z) (unL e z') → Con (doneL (exL s e) e) z z' := fun z z' hz hz' k => by
    have h1 := (cyc_done hp hn2 (x := z) (y := z') (by rw [hl]; exact hz) (by rw [hl]; exact hz')).2 (by rw [hl]; exact k)
    have hpm := hdp.pm
    rw [hdl] at hpm
    rw [hl] at h1
    refine hpm.cyc_sub hc (fun w hw => ?_) h1
    exact Con.step hdp (by rw [hdl]; exact hw)
  have hAB : cyc s.length (at' (exL s e)) (2 * e) (2 * e + 1) := (ex_cyc hs hn hne (by omega) (by omega)).2 (Or.inr (Or.inl ⟨hs.pm.per.refl (by omega), hs.pm.per.refl (by omega)⟩))
  have hr : Per s.length (fun X Y => X < s.length ∧ Y < s.length ∧ ((∃ z, z < s.length - 2 ∧ cyc s.length (at' (exL s e)) X (unL e z)) ↔ (∃ z, z < s.length - 2 ∧ cyc s.length (at' (exL s e)) Y (unL e z))) ∧
      ∀ z z', z < s.length - 2 → z' < s.length - 2 → cyc s.length (at' (exL s e)) X (unL e z) → cyc s.length (at' (exL s e)) Y (unL e z') → Con (doneL (exL s e) e) z z') := by
    refine ⟨fun {X} h => ⟨h, h, Iff.rfl, fun z z' hz hz' k k' => hcyc z z' hz hz' (hq.trans (hq.symm k) k')⟩, ?_, ?_, fun h => h.1⟩
    · rintro X Y ⟨h1, h2, h3, h4⟩
      exact ⟨h2, h1, h3.symm, fun z z' hz hz' k k' => hc.symm (h4 z' z hz' hz k' k)⟩
    · rintro X Y Z ⟨h1, h2, h3, h4⟩ ⟨k1, k2, k3, k4⟩
      refine ⟨h1, k2, h3.trans k3, fun z z' hz hz' a b => ?_⟩
      obtain ⟨w, hw, c⟩ := h3.1 ⟨z, hz, a⟩
      exact hc.trans (h4 z w hz hw a c) (k4 w z' hw hz' c b)
  have same : ∀ X Y, cyc s.length (at' (exL s e)) X Y → X < s.length ∧ Y < s.length ∧ ((∃ z, z < s.length - 2 ∧ cyc s.length (at' (exL s e)) X (unL e z)) ↔ (∃ z, z < s.length - 2 ∧ cyc s.length (at' (exL s e)) Y (unL e z))) ∧
      ∀ z z', z < s.length - 2 → z' < s.length - 2 → cyc s.length (at' (exL s e)) X (unL e z) → cyc s.length (at' (exL s e)) Y (unL e z') → Con (doneL (exL s e) e) z z' := fun X Y k =>
    ⟨hq.dom k, hq.cod k, ⟨fun ⟨z, hz, a⟩ => ⟨z, hz, hq.trans (hq.symm k) a⟩, fun ⟨z, hz, a⟩ => ⟨z, hz, hq.trans k a⟩⟩, fun z z' hz hz' a b => hcyc z z' hz hz' (hq.trans (hq.symm a) (hq.trans k b))⟩
  have hsub := Con.sub hs hr (fun X hX => same X (at' s X) ((ex_cyc hs hn hne hX (hs.lt hX)).2 (Or.inl (hs.pm.step hX)))) (fun X hX => by
    have hXm := xor_one_lt he hX
    by_cases ho : X / 2 = e
    · have h2 : X = 2 * e ∨ X = 2 * e + 1 := by omega
      rcases h2 with rfl | rfl
      · rw [xor_even]; exact same _ _ hAB
      · rw [← xor_even, xor_one_one, xor_even]; exact same _ _ (hq.symm hAB)
    · have hom : ¬ (X ^^^ 1) / 2 = e := fun k => ho (mate_own.1 k)
      have r1 := un_nm ho
      have r2 := un_nm hom
      have l1 := nmL_lt hn ho hX
      have l2 := nmL_lt hn hom hXm
      have hnm : nmL e (X ^^^ 1) = nmL e X ^^^ 1 := unL_inj (e := e) (by rw [r2, unL_mate, r1])
      refine ⟨hX, hXm, ⟨fun _ => ⟨_, l2, by rw [r2]; exact hq.refl hXm⟩, fun _ => ⟨_, l1, by rw [r1]; exact hq.refl hX⟩⟩, fun z z' hz hz' a b => ?_⟩
      have c1 := hcyc z (nmL e X) hz l1 (by rw [r1]; exact hq.symm a)
      have c2 := hcyc (nmL e (X ^^^ 1)) z' l2 hz' (by rw [r2]; exact b)
      have c3 : Con (doneL (exL s e) e) (nmL e X) (nmL e X ^^^ 1) := Con.mate hdp (by rw [hdl]; omega) (by rw [hdl]; exact l1)
      rw [hnm] at c2
      exact hc.trans c1 (hc.trans c3 c2)) h
  exact hsub.2.2.2 x y hx hy (hq.refl (unL_lt hn hx)) (hq.refl (unL_lt hn hy))
theorem bare_both : (bareB s e (2 * e) && bareB s e (2 * e + 1)) = true ↔ ¬ ∃ z, Con s (2 * e) z ∧ ¬ z / 2 = e := by
  have hA : 2 * e < s.length := by omega
  have hB : 2 * e + 1 < s.length := by omega
  have nn := ex_not hs hn hne
  have hq := hs.pm.per
  have hcs : ∀ {x y}, cyc s.length (at' s) x y → Con s x y := fun {x y} h => hs.pm.cyc_sub (Con.per hs) (fun z hz => Con.step hs hz) h
  have hm : Con s (2 * e) (2 * e + 1) := by have := Con.mate hs he hA; rwa [xor_even] at this
  rw [Bool.and_eq_true, bare_iff hs hn hA, bare_iff hs hn hB]
  constructor
  · rintro ⟨h1, h2⟩ ⟨z, hz, ho⟩
    have f1 : at' s (2 * e) = 2 * e := by
      have h3 := h1 _ (hs.pm.step hA)
      have h4 : at' s (2 * e) = 2 * e ∨ at' s (2 * e) = 2 * e + 1 := by omega
      rcases h4 with k | k
      · exact k
      · exact absurd (by have := hs.pm.step hA; rwa [k] at this) nn
    have f2 : at' s (2 * e + 1) = 2 * e + 1 := by
      have h3 := h2 _ (hs.pm.step hB)
      have h4 : at' s (2 * e + 1) = 2 * e ∨ at' s (2 * e + 1) = 2 * e + 1 := by omega
      rcases h4 with k | k
      · exact absurd (hq.symm (by have := hs.pm.step hB; rwa [k] at this)) nn
      · exact k
    have := Con.sub hs (r := fun x y => x < s.length ∧ y < s.length ∧ (x / 2 = e ↔ y / 2 = e)) ⟨fun h => ⟨h, h, Iff.rfl⟩, fun h => ⟨h.2.1, h.1, h.2.2.symm⟩, fun h k => ⟨h.1, k.2.1, h.2.2.trans k.2.2⟩, fun h => h.1⟩ (fun x hx => by
      refine ⟨hx, hs.lt hx, ⟨fun k => ?_, fun k => ?_⟩⟩
      · have h4 : x = 2 * e ∨ x = 2 * e + 1 := by omega
        rcases h4 with rfl | rfl
        · rw [f1]; exact k
        · rw [f2]; exact k
      · have h4 : at' s x = 2 * e ∨ at' s x = 2 * e + 1 := by omega
        rcases h4 with k4 | k4
        · have := hs.inj hx hA (by rw [f1]; exact k4); omega
        · have := hs.inj hx hB (by rw [f2]; exact k4); omega) (fun x hx => ⟨hx, xor_one_lt he hx, mate_own.symm⟩) hz
    exact ho (this.2.2.1 (by omega))
  · intro h
    refine ⟨fun z hz => ?_, fun z hz => ?_⟩
    · by_cases ho : z / 2 = e
      · exact ho
      · exact absurd ⟨z, hcs hz, ho⟩ h
    · by_cases ho : z / 2 = e
      · exact ho
      · exact absurd ⟨z, (Con.per hs).trans hm (hcs hz), ho⟩ h
theorem shr_parts : ((partsN (doneL (exL s e) e) : Nat) : Int) + shrLone s e = (partsN s : Nat) := by
  have hp := exL_perm hs hn
  have hl := exL_length s e
  have hn2 : 2 * e + 2 ≤ (exL s e).length := by rw [hl]; exact hn
  have hdp := doneL_perm hp hn2
  have hdl : (doneL (exL s e) e).length = s.length - 2 := by rw [doneL_length, hl]
  have hq := Con.per hs
  have hr : Per (s.length - 2) (Con (doneL (exL s e) e)) := by have := Con.per hdp; rwa [hdl] at this
  have hA : 2 * e < s.length := by omega
  have hB : 2 * e + 1 < s.length := by omega
  have hm : Con s (2 * e) (2 * e + 1) := by have := Con.mate hs he hA; rwa [xor_even] at this
  have a := (partsL_ord hs he).cnt_eq (Nat.le_refl s.length)
  have b := (partsL_ord hdp (by rw [hdl]; omega)).cnt_eq (Nat.le_refl (doneL (exL s e) e).length)
  have h1 : partsN (doneL (exL s e) e) = cls (Con (doneL (exL s e) e)) (fun _ => True) (s.length - 2) := by
    unfold partsN
    rw [b, hdl]
    exact tally_congr fun k _ => ⟨fun h => ⟨trivial, h⟩, fun h => h.2⟩
  have h2 := cls_cover (P := fun y => ∃ z, Con s y z ∧ ¬ z / 2 = e) hr hq (unL e) (fun x hx => ⟨unL_lt hn hx, unL e x, hq.refl (unL_lt hn hx), unL_own⟩) (fun y hy hP => by
    obtain ⟨z, hz, ho⟩ := hP
    exact ⟨nmL e z, nmL_lt hn ho (hq.cod hz), by rw [un_nm ho]; exact hq.symm hz⟩) (fun x y hx hxy => by
    obtain ⟨z, hz, ho⟩ := hx
    exact ⟨z, hq.trans (hq.symm hxy) hz, ho⟩) (fun x y hx hy => ⟨fun h => shr_con_up hs he hn h, fun h => shr_con_down hs he hn hne hx hy h⟩)
  have h3 : partsN s = cls (Con s) (fun y => ∃ z, Con s y z ∧ ¬ z / 2 = e) s.length + tally (fun x => Least (Con s) x ∧ ¬ ∃ z, Con s x z ∧ ¬ z / 2 = e) s.length := by
    unfold partsN
    rw [a, tally_split _ (fun y => ∃ z, Con s y z ∧ ¬ z / 2 = e)]
    congr 1
    exact tally_congr fun k _ => And.comm
  have h4 := tally_two (p := fun x => Least (Con s) x ∧ ¬ ∃ z, Con s x z ∧ ¬ z / 2 = e) hA hB (by omega) (fun x hx hpx => by
    by_cases ho : x / 2 = e
    · omega
    · exact absurd ⟨x, hq.refl hx, ho⟩ hpx.2)
  have h5 : ind (Least (Con s) (2 * e + 1) ∧ ¬ ∃ z, Con s (2 * e + 1) z ∧ ¬ z / 2 = e) = 0 := ind_no fun h => h.1 (2 * e) (by omega) hm
  have h6 := ind_oneIf (p := Least (Con s) (2 * e) ∧ ¬ ∃ z, Con s (2 * e) z ∧ ¬ z / 2 = e) (b := bareB s e (2 * e) && bareB s e (2 * e + 1)) (by
    rw [bare_both hs he hn hne]
    exact ⟨fun h => h.2, fun h => ⟨fun y hy hc => h ⟨y, hq.symm hc, by omega⟩, h⟩⟩)
  rw [h1, h2, h3, h4, h5]
  unfold shrLone
  rw [← h6]
  omega
theorem genusL_shrink : genusL (doneL (exL s e) e) = genusL s := by
  have hp := exL_perm hs hn
  have hl := exL_length s e
  have hn2 : 2 * e + 2 ≤ (exL s e).length := by rw [hl]; exact hn
  have hdp := doneL_perm hp hn2
  have hdl : (doneL (exL s e) e).length = s.length - 2 := by rw [doneL_length, hl]
  have g1 := genus_total hs he
  have g2 := genus_total hdp (by rw [hdl]; omega)
  rw [turn_shrink hs he hn, hdl] at g2
  have v1 := shrink_vertices hs hn hne
  have v2 := cut_vertices (phiL_perm hs he) (e := e) (by rw [phiL_length]; exact hn)
  rw [phi_lone hs hn hne he] at v2
  have v3 := shr_parts hs he hn hne
  omega
end
end Go.Proofs.YtklkgicjfnbndaaGreat

namespace Go.Proofs.YtklkgicjfnbndaaGreat
set_option linter.unusedVariables false

theorem orbitGo_map {s : List Nat} {i : Nat} : ∀ (f x : Nat), Reach s i f x → ∃ m, it s m x = i ∧ orbitGo s i f x = (List.range m).map (fun j => it s j x)
  | 0, x, h => by
    obtain ⟨j, hj, e⟩ := h
    obtain rfl : j = 0 := by omega
    exact ⟨0, e, rfl⟩
  | f + 1, x, h => by
    by_cases hx : x = i
    · subst hx; exact ⟨0, rfl, by rw [orbitGo_end]; rfl⟩
    · obtain ⟨f', hf, hr⟩ := h.next hx
      obtain rfl : f' = f := by omega
      obtain ⟨m, h1, h2⟩ := orbitGo_map f' (at' s x) hr
      refine ⟨m + 1, h1, ?_⟩
      rw [orbitGo_next hx, h2, List.range_succ_eq_map, List.map_cons, List.map_map]
      rfl
theorem orbitL_map {s : List Nat} (hs : IsPerm s) {i : Nat} (hi : i < s.length) : ∃ c, 0 < c ∧ it s c i = i ∧ orbitL s i = (List.range c).map (fun j => it s j i) := by
  obtain ⟨m, h1, h2⟩ := orbitGo_map s.length (at' s i) (hs.reach hi)
  refine ⟨m + 1, by omega, h1, ?_⟩
  show i :: orbitGo s i s.length (at' s i) = _
  rw [h2, List.range_succ_eq_map, List.map_cons, List.map_map]
  rfl
/-- who stands behind whom -/
def nextI (n i : Nat) : Nat := if i + 1 < n then i + 1 else 0
end Go.Proofs.YtklkgicjfnbndaaGreat

namespace Go.Proofs.YtklkgicjfnbndaaGreat
set_option linter.unusedVariables false

end Go.Proofs.YtklkgicjfnbndaaGreat

namespace Go.Proofs.YtklkgicjfnbndaaGreat
open Go.RowKit
set_option linter.unusedVariables false

end Go.Proofs.YtklkgicjfnbndaaGreat
