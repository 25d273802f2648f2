/- Shrunk, a map has as many parts, and the same genus. Conditions: none. A vertex's darts in order, without an edge's: each one's next is the map's that is left. Conditions: none. The document's lists, laid into a row, are the map that is left. Conditions: none. parquetryref10: name, from. Conditions: the map's list lies in memory, the dart is there. parquetryref10.others: the vertices that an edge isn't at. Conditions: the map's list lies in memory, the edge is there. The document's lists of vertices, for Cut and for Shrink, have each dart that is left. Conditions: none. The document's lists for Shrink have each dart that is left; the root that is left. Conditions: none. -/
import Derived.Test.YtcnmbenfnpjkjaaGreatZShellNo21
import Derived.Test.YtcnmbenfnpjkjaaGreatZShellNo01
import Derived.Test.YtcnmbenfnpjkjaaGreatZShellNo15
import Derived.Test.YtcnmbenfnpjkjaaGreatZShellNo17
import Derived.Deep.RegionLaw
namespace Go.Proofs.YtcnmbenfnpjkjaaGreat
set_option linter.unusedVariables false

section
variable {s : List Nat} (hs : IsPerm s) (he : s.length % 2 = 0) {e : Nat} (hn : 2 * e + 2 ≤ s.length) (hne : nth (namesL s) (2 * e) ≠ nth (namesL s) (2 * e + 1))
include hs he hn

include hne
end
end Go.Proofs.YtcnmbenfnpjkjaaGreat

namespace Go.Proofs.YtcnmbenfnpjkjaaGreat
set_option linter.unusedVariables false

theorem orbitGo_map {s : List Nat} {i : Nat} : ∀ (f x : Nat), Reach s i f x → ∃ m, it s m x = i ∧ orbitGo s i f x = (List.range m).map (fun j => it s j x)
  | 0, x, h => by
    obtain ⟨j, hj, e⟩ := h
    obtain rfl : j = 0 := by omega
    exact ⟨0, e, rfl⟩
  | f + 1, x, h => by
    by_cases hx : x = i
    · subst hx; exact ⟨0, rfl, by rw [orbitGo_end]; rfl⟩
    · obtain ⟨f', hf, hr⟩ := h.next hx
      obtain rfl : f' = f := by omega
      obtain ⟨m, h1, h2⟩ := orbitGo_map f' (at' s x) hr
      refine ⟨m + 1, h1, ?_⟩
      rw [orbitGo_next hx, h2, List.range_succ_eq_map, List.map_cons, List.map_map]
      rfl
theorem orbitL_map {s : List Nat} (hs : IsPerm s) {i : Nat} (hi : i < s.length) : ∃ c, 0 < c ∧ it s c i = i ∧ orbitL s i = (List.range c).map (fun j => it s j i) := by
  obtain ⟨m, h1, h2⟩ := orbitGo_map s.length (at' s i) (hs.reach hi)
  refine ⟨m + 1, by omega, h1, ?_⟩
  show i :: orbitGo s i s.length (at' s i) = _
  rw [h2, List.range_succ_eq_map, List.map_cons, List.map_map]
  rfl
theorem way_itf {s : List Nat} {Q : Nat → Prop} {d a b : Nat} (hab : a < b) (hq : ∀ j, a < j → j < b → Q (itf (at' s) j d)) (hb : ¬ Q (itf (at' s) b d)) : Way s Q (itf (at' s) a d) (itf (at' s) b d) := by
  obtain ⟨k, rfl⟩ : ∃ k, b = a + 1 + k := ⟨b - a - 1, by omega⟩
  induction k generalizing a with
  | zero =>
    rw [Nat.add_zero] at hb ⊢
    rw [itf_succ] at hb ⊢
    exact .one hb
  | succ k ih =>
    have h1 := hq (a + 1) (by omega) (by omega)
    have e : a + 1 + (k + 1) = a + 1 + 1 + k := by omega
    rw [itf_succ] at h1
    refine .more h1 ?_
    rw [show at' s (itf (at' s) a d) = itf (at' s) (a + 1) d from (itf_succ _ _ _).symm, e]
    exact ih (by omega) (fun j h2 h3 => hq j (by omega) (by omega)) (by rw [← e]; exact hb)

/-- a vertex's darts from one on, without the edge's -/
def fromL (s : List Nat) (d e : Nat) : List Nat := (orbitL s d).filter fun x => !decide (x / 2 = e)
theorem mem_from {s : List Nat} {d e x : Nat} : x ∈ fromL s d e ↔ x ∈ orbitL s d ∧ ¬ x / 2 = e := by
  unfold fromL
  rw [List.mem_filter]
  simp
/-- who stands behind whom -/
def nextI (n i : Nat) : Nat := if i + 1 < n then i + 1 else 0
theorem from_next {s : List Nat} (hs : IsPerm s) {d e : Nat} (hd : d < s.length) {i : Nat} (hi : i < (fromL s d e).length) :
    Way s (fun x => x / 2 = e) ((fromL s d e).getD i 0) ((fromL s d e).getD (nextI (fromL s d e).length i) 0) := by
  obtain ⟨c, hc, hcd, ho⟩ := orbitL_map hs hd
  have e0 : fromL s d e = (srt (fun j => !decide (it s j d / 2 = e)) c).map (fun j => it s j d) := by
    unfold fromL srt
    rw [ho, List.filter_map]
    rfl
  obtain ⟨I, hI⟩ : ∃ I, srt (fun j => !decide (it s j d / 2 = e)) c = I := ⟨_, rfl⟩
  have hlen : (fromL s d e).length = I.length := by rw [e0, hI]; simp
  have hget : ∀ j, j < I.length → (fromL s d e).getD j 0 = itf (at' s) (I.getD j 0) d := fun j hj => by
    rw [e0, hI]
    simp [List.getD, hj, it_itf]
  rw [hlen] at hi ⊢
  have hmem : ∀ j, j < c → ¬ itf (at' s) j d / 2 = e → ∃ k, k < I.length ∧ I.getD k 0 = j := fun j hj hjo => by
    have := srt_idx (S := fun j => !decide (it s j d / 2 = e)) (P := c) hj (by rw [it_itf]; simp [hjo])
    rw [hI] at this
    exact ⟨_, this.1, this.2⟩
  have hin : ∀ k, k < I.length → I.getD k 0 < c ∧ ¬ itf (at' s) (I.getD k 0) d / 2 = e := fun k hk => by
    have := srt_get (S := fun j => !decide (it s j d / 2 = e)) (P := c) (i := k) (by rw [hI]; exact hk)
    rw [hI, it_itf] at this
    simpa using this
  have hlt : ∀ a b, a < I.length → b < I.length → (I.getD a 0 < I.getD b 0 ↔ a < b) := fun a b ha hb => by
    have := srt_lt_iff (S := fun j => !decide (it s j d / 2 = e)) (P := c) (i := a) (j := b) (by rw [hI]; exact ha) (by rw [hI]; exact hb)
    rwa [hI] at this
  unfold nextI
  by_cases h1 : i + 1 < I.length
  · rw [if_pos h1, hget i hi, hget (i + 1) h1]
    refine way_itf ((hlt _ _ hi h1).2 (by omega)) (fun j h2 h3 => ?_) (hin _ h1).2
    by_cases hj : itf (at' s) j d / 2 = e
    · exact hj
    · obtain ⟨k, hk, rfl⟩ := hmem j (by have := (hin _ h1).1; omega) hj
      have a := (hlt _ _ hi hk).1 h2
      have b := (hlt _ _ hk h1).1 h3
      omega
  · rw [if_neg h1, hget i hi, hget 0 (by omega)]
    have hI0 := hin 0 (by omega)
    have hcyc : ∀ j, itf (at' s) (c + j) d = itf (at' s) j d := fun j => by
      rw [itf_plus]
      rw [it_itf] at hcd
      rw [hcd]
    have hii := hin i hi
    rw [← hcyc (I.getD 0 0)]
    refine way_itf (by omega) (fun j h2 h3 => ?_) (by rw [hcyc]; exact hI0.2)
    by_cases hj : itf (at' s) j d / 2 = e
    · exact hj
    · by_cases hjc : j < c
      · obtain ⟨k, hk, rfl⟩ := hmem j hjc hj
        have := (hlt _ _ hi hk).1 h2
        omega
      · obtain ⟨j', rfl⟩ : ∃ j', j = c + j' := ⟨j - c, by omega⟩
        rw [hcyc] at hj
        obtain ⟨k, hk, e3⟩ := hmem j' (by omega) hj
        have : ¬ k < 0 := by omega
        have h5 : I.getD k 0 < I.getD 0 0 := by omega
        have := (hlt _ _ hk (by omega)).1 h5
        omega

/-- the pairs of darts that stand behind one another, list by list, are laid into a row -/
def layV (e : Nat) (v : List Nat) (S : List Nat) : List Nat := (List.range v.length).foldl (fun S i => S.set (nmL e (v.getD i 0)) (nmL e (v.getD (nextI v.length i) 0))) S
theorem foldl_lay {T : List Nat} {p q : Nat → Nat} : ∀ (k : Nat) (S : List Nat), S.length = T.length → (∀ i, i < k → p i < T.length → q i = at' T (p i)) →
    ((List.range k).foldl (fun S i => S.set (p i) (q i)) S).length = T.length ∧ ∀ j, j < T.length → at' ((List.range k).foldl (fun S i => S.set (p i) (q i)) S) j = if (∃ i, i < k ∧ p i = j) then at' T j else at' S j
  | 0, S, hl, _ => ⟨hl, fun j hj => by rw [if_neg (fun ⟨i, hi, _⟩ => by omega)]; rfl⟩
  | k + 1, S, hl, h => by
    obtain ⟨h1, h2⟩ := foldl_lay k S hl fun i hi => h i (by omega)
    rw [List.range_succ, List.foldl_append]
    refine ⟨by simp [h1], fun j hj => ?_⟩
    show at' (List.set _ _ _) j = _
    have hset : ∀ (L : List Nat) (a b j : Nat), j < L.length → at' (L.set a b) j = if a = j then b else at' L j := fun L a b j hj => by
      unfold at'
      simp only [List.getD_eq_getElem?_getD, List.getElem?_set]
      by_cases e : a = j
      · subst e; simp [hj]
      · simp [e]
    rw [hset _ _ _ _ (by rw [h1]; exact hj), h2 j hj]
    by_cases e : p k = j
    · rw [if_pos e, if_pos ⟨k, by omega, e⟩, h k (by omega) (by rw [e]; exact hj), e]
    · rw [if_neg e]
      by_cases hex : ∃ i, i < k ∧ p i = j
      · obtain ⟨i, hi, hp⟩ := hex
        rw [if_pos ⟨i, hi, hp⟩, if_pos ⟨i, by omega, hp⟩]
      · rw [if_neg hex, if_neg]
        rintro ⟨i, hi, hp⟩
        rcases Nat.lt_or_eq_of_le (Nat.le_of_lt_succ hi) with h3 | h3
        · exact hex ⟨i, h3, hp⟩
        · subst h3; exact e hp

end Go.Proofs.YtcnmbenfnpjkjaaGreat

namespace Go.Proofs.YtcnmbenfnpjkjaaGreat
set_option linter.unusedVariables false

theorem layV_spec {t : List Nat} (ht : IsPerm t) {e : Nat} (hn : 2 * e + 2 ≤ t.length) {d : Nat} (hd : d < t.length) {S : List Nat} (hS : S.length = t.length - 2) :
    (layV e (fromL t d e) S).length = t.length - 2 ∧ ∀ j, j < t.length - 2 → at' (layV e (fromL t d e) S) j = if unL e j ∈ fromL t d e then at' (doneL t e) j else at' S j := by
  have hget : ∀ i, i < (fromL t d e).length → (fromL t d e).getD i 0 ∈ fromL t d e := fun i hi => by
    rw [getD_lt hi]; exact List.getElem_mem hi
  have hlt : ∀ x, x ∈ fromL t d e → x < t.length ∧ ¬ x / 2 = e := fun x hx => ⟨orbitL_lt ht hd x (mem_from.1 hx).1, (mem_from.1 hx).2⟩
  have h := foldl_lay (T := doneL t e) (p := fun i => nmL e ((fromL t d e).getD i 0)) (q := fun i => nmL e ((fromL t d e).getD (nextI (fromL t d e).length i) 0)) (fromL t d e).length S (by rw [doneL_length]; exact hS) (fun i hi hp => by
    obtain ⟨h1, h2⟩ := hlt _ (hget i hi)
    have hw := from_next ht hd hi
    have hl2 : nmL e ((fromL t d e).getD i 0) < t.length - 2 := nmL_lt hn h2 h1
    rw [doneL_at hl2, un_nm h2]
    exact congrArg (nmL e) (hw.same (pass_way ht h1 h2)))
  rw [doneL_length] at h
  refine ⟨h.1, fun j hj => ?_⟩
  rw [show at' (layV e (fromL t d e) S) j = _ from h.2 j hj]
  by_cases hm : unL e j ∈ fromL t d e
  · obtain ⟨i, hi, e1⟩ := List.getElem_of_mem hm
    rw [if_pos hm, if_pos ⟨i, hi, by show nmL e ((fromL t d e).getD i 0) = j; rw [getD_lt hi, e1, nm_un]⟩]
  · rw [if_neg hm, if_neg]
    rintro ⟨i, hi, e1⟩
    apply hm
    have h1 := hget i hi
    have e2 : nmL e ((fromL t d e).getD i 0) = j := e1
    rw [← e2, un_nm (hlt _ h1).2]
    exact h1
def layAll (e : Nat) (xss : List (List Nat)) (S : List Nat) : List Nat := xss.foldl (fun S v => layV e v S) S
theorem layAll_spec {t : List Nat} (ht : IsPerm t) {e : Nat} (hn : 2 * e + 2 ≤ t.length) : ∀ (ds : List Nat) (S : List Nat), (∀ d, d ∈ ds → d < t.length) → S.length = t.length - 2 →
    (layAll e (ds.map fun d => fromL t d e) S).length = t.length - 2 ∧ ∀ j, j < t.length - 2 → at' (layAll e (ds.map fun d => fromL t d e) S) j = if (∃ d, d ∈ ds ∧ unL e j ∈ fromL t d e) then at' (doneL t e) j else at' S j
  | [], S, _, hS => ⟨hS, fun j hj => by rw [if_neg (fun ⟨d, hd, _⟩ => by cases hd)]; rfl⟩
  | d :: ds, S, h, hS => by
    obtain ⟨h1, h2⟩ := layV_spec ht hn (h d List.mem_cons_self) hS
    obtain ⟨h3, h4⟩ := layAll_spec ht hn ds (layV e (fromL t d e) S) (fun x hx => h x (List.mem_cons_of_mem _ hx)) h1
    refine ⟨h3, fun j hj => ?_⟩
    rw [show at' (layAll e ((d :: ds).map fun d => fromL t d e) S) j = _ from h4 j hj, h2 j hj]
    by_cases hx : ∃ d', d' ∈ ds ∧ unL e j ∈ fromL t d' e
    · obtain ⟨d', hd', hm⟩ := hx
      rw [if_pos ⟨d', hd', hm⟩, if_pos ⟨d', List.mem_cons_of_mem _ hd', hm⟩]
    · rw [if_neg hx]
      by_cases hm : unL e j ∈ fromL t d e
      · rw [if_pos hm, if_pos ⟨d, List.mem_cons_self, hm⟩]
      · rw [if_neg hm, if_neg]
        rintro ⟨d', hd', hm'⟩
        rcases List.mem_cons.1 hd' with rfl | hd'
        · exact hm hm'
        · exact hx ⟨d', hd', hm'⟩
/-- lists that have each dart that is left -/
theorem layAll_done {t : List Nat} (ht : IsPerm t) {e : Nat} (hn : 2 * e + 2 ≤ t.length) {ds : List Nat} (hds : ∀ d, d ∈ ds → d < t.length) (hall : ∀ x, x < t.length → ¬ x / 2 = e → ∃ d, d ∈ ds ∧ x ∈ orbitL t d) :
    layAll e (ds.map fun d => fromL t d e) (List.replicate (t.length - 2) 0) = doneL t e := by
  obtain ⟨h1, h2⟩ := layAll_spec ht hn ds (List.replicate (t.length - 2) 0) hds (by simp)
  refine eq_at (by rw [h1, doneL_length]) fun j hj => ?_
  rw [h1] at hj
  obtain ⟨d, hd, hx⟩ := hall (unL e j) (unL_lt hn hj) unL_own
  rw [h2 j hj, if_pos ⟨d, hd, mem_from.2 ⟨hx, unL_own⟩⟩]

/-- of a vertex that the edge isn't at all are left -/
theorem from_all {s : List Nat} {d e : Nat} (h : ∀ x, x ∈ orbitL s d → ¬ x / 2 = e) : fromL s d e = orbitL s d := by
  unfold fromL
  rw [List.filter_eq_self]
  intro x hx
  simp [h x hx]
end Go.Proofs.YtcnmbenfnpjkjaaGreat

namespace Go.Proofs.YtcnmbenfnpjkjaaGreat
open Go.RowKit
set_option linter.unusedVariables false

set_option maxRecDepth 100000 in
theorem r10name_any (w : World) (d e : Nat) (hd : d ≤ 4000000) (he : e ≤ 1000000) (ho : ¬ d / 2 = e) : Calls Tryz.prog 98 #[.int .i64 (d : Int), .int .i64 (e : Int)] w fun z w' => z = .returned (.int .i64 ((nmL e d : Nat) : Int)) ∧ w = w' := by
  have hw : IntKind.i64.wrap (2 * (e : Int)) = 2 * (e : Int) := IntWalk.i64_in _ (by omega)
  have hw1 : IntKind.i64.wrap (2 * (e : Int) + 1) = 2 * (e : Int) + 1 := IntWalk.i64_in _ (by omega)
  have hw2 : IntKind.i64.wrap ((d : Int) - 2) = (d : Int) - 2 := IntWalk.i64_in _ (by omega)
  by_cases hk : 2 * e < d
  · have hb1 : (2 * (e : Int) + 1 < (d : Int)) := by omega
    have hv : ((nmL e d : Nat) : Int) = (d : Int) - 2 := by unfold nmL; rw [if_pos hk]; omega
    rw [hv]
    go_enter Tryz.func98, Tryz.ntmps98
    go_wp2_with fail
    go_ret
    exact ⟨rfl, rfl⟩
  · have hb1 : ¬ (2 * (e : Int) + 1 < (d : Int)) := by omega
    have hv : ((nmL e d : Nat) : Int) = (d : Int) := by unfold nmL; rw [if_neg hk]
    rw [hv]
    go_enter Tryz.func98, Tryz.ntmps98
    go_wp2_with fail
    go_ret
    exact ⟨rfl, rfl⟩

/-- the first so many of a list, without the edge's -/
def fromTo (xs : List Nat) (e i : Nat) : List Nat := (xs.take i).filter fun x => !decide (x / 2 = e)
theorem fromTo_yes {xs : List Nat} {e i : Nat} (hi : i < xs.length) (h : ¬ at' xs i / 2 = e) : toI (fromTo xs e (i + 1)) = toI (fromTo xs e i) ++ [((at' xs i : Nat) : Int)] := by
  unfold fromTo
  rw [List.take_succ_eq_append_getElem hi, List.filter_append]
  have e1 : at' xs i = xs[i] := at'_eq hi
  rw [e1] at h ⊢
  simp [toI, h]
theorem fromTo_no {xs : List Nat} {e i : Nat} (hi : i < xs.length) (h : at' xs i / 2 = e) : fromTo xs e (i + 1) = fromTo xs e i := by
  unfold fromTo
  rw [List.take_succ_eq_append_getElem hi, List.filter_append]
  have e1 : at' xs i = xs[i] := at'_eq hi
  rw [e1] at h
  simp [h]
theorem fromTo_le (xs : List Nat) (e i : Nat) : (toI (fromTo xs e i)).length ≤ i := by
  unfold fromTo
  rw [toI_length]
  have h1 := List.length_filter_le (fun x => !decide (x / 2 = e)) (xs.take i)
  have h2 : (xs.take i).length ≤ i := by rw [List.length_take]; omega
  omega

set_option maxRecDepth 100000 in
set_option maxHeartbeats 2000000 in
theorem r10from_any (R : Reg) (w : World) (hI : Inv R w) (v : Value) (s : List Nat) (root lone : Int) (hv : FreeI R w v (toI s)) (hS : IsPerm s) (hn : s.length ≤ 1000000) (d e : Nat) (hd : d < s.length) :
    Calls Tryz.prog 59 #[refV v root lone, .int .i64 (d : Int), .int .i64 (e : Int)] w (RetOwn R w (toI (fromL s d e))) := by
  obtain ⟨a0, cap0, rfl, hv0⟩ := hv.open
  rw [toI_length] at hv hv0 ⊢
  have HOr := Lib.hid (fun R' w' (he : Ev R w R' w') => rorbit_any R' w' he.inv _ s (hv.ev he) hS (by omega) d hd)
  have hol := orbitL_length s d
  have hlt := orbitL_lt hS hd
  have hfr : fromL s d e = fromTo (orbitL s d) e (orbitL s d).length := by unfold fromL fromTo; rw [List.take_length]
  rw [hfr]
  obtain ⟨xs, hxs⟩ : ∃ xs, orbitL s d = xs := ⟨_, rfl⟩
  rw [hxs] at HOr hol hlt ⊢
  have HLt : Hid (∀ i, i < xs.length → at' xs i ≤ 4000000) := Lib.hid fun i hi => by
    have := hlt _ (List.getElem_mem hi)
    rw [at'_eq hi]; omega
  obtain ⟨m, hm⟩ : ∃ m, xs.length = m := ⟨_, rfl⟩
  have HM := Lib.hid hm
  rw [hm] at hol HLt ⊢
  unfold refV
  have he1 : Ev R w R (w.alloc (.cells #[.slice a0 s.length cap0, .int .i64 root, .int .i64 lone] 26)) := (Ev.refl hI).alloc _
  obtain ⟨x0, x1, x2, _⟩ := box_cells (heap_alloc_new w (.cells #[.slice a0 s.length cap0, .int .i64 root, .int .i64 lone] 26))
  have HE1 := Lib.hid he1
  have hmb : m ≤ 1000001 := by omega
  clear hI hv hv0 hS hlt hxs he1 hm hfr
  go_enter Tryz.func59, Tryz.ntmps59
  go_wp2_with fail
  refine (HOr.out _ _ HE1.out).mono ?_
  rintro z w2 ⟨v2, rfl, he2, ho2⟩
  obtain ⟨a2, c2, rfl, _⟩ := ho2.ints.open
  rw [toI_length, HM.out] at ho2 ⊢
  have HE2 := Lib.hid (HE1.out.trans he2)
  have HO2 := Lib.hid ho2
  clear he2 ho2 x0 x1 x2
  go_wp2_with fail
  go_loopg [7, 15] m (fun g v7 v15 wr => ∃ (i : Nat) (a6 : Option Addr) (l6 c6 : Nat), i ≤ m ∧ m - i ≤ g ∧ v15 = .int .i64 (i : Int) ∧ v7 = .slice a6 l6 c6 ∧ Ev R w2 R wr ∧ OwnI R w2.heap.size 3 wr (.slice a6 l6 c6) (toI (fromTo xs e i)))
  case atStart => exact ⟨0, none, 0, 0, Nat.zero_le _, by omega, rfl, rfl, Ev.refl HE2.out.inv, OwnI.nil _ _ _ _⟩
  case round =>
    obtain ⟨i, a6, l6, c6, him, hg, rfl, rfl, hev, ho6⟩ := hrel
    have HE := Lib.hid hev
    have HO6 := Lib.hid ho6
    clear hev ho6
    by_cases hil : i < m
    · have hilx : i < xs.length := by rw [HM.out]; exact hil
      obtain ⟨g2, rfl, _, _, k0, _⟩ := (HO2.out.ev HE.out).headAt (xs := toI xs) (by rw [toI_length, HM.out]) hil
      rw [toI_nth] at k0
      have hyb := HLt.out i hil
      have hle := fromTo_le xs e i
      have hz : w2.heap.size ≤ wr.heap.size := HE.out.size
      have hyes := fromTo_yes (e := e) hilx
      have hno := fromTo_no (e := e) hilx
      obtain ⟨y, hy⟩ : ∃ y, at' xs i = y := ⟨_, rfl⟩
      rw [hy] at k0 hyb hyes hno
      have hw : wrap64 ((y : Int) / 2) = (y : Int) / 2 := by unfold wrap64; omega
      clear hy
      by_cases ho : y / 2 = e
      · have hb : ((y : Int) / 2 != (e : Int)) = false := by simp; omega
        have HN := Lib.hid (hno ho)
        clear ho hyes hno
        go_wp2_with fail
        go_roundg (m - (i + 1))
        case measure => omega
        case rel => exact ⟨i + 1, a6, l6, c6, by omega, by omega, by go_num, rfl, HE.out, by rw [HN.out]; exact HO6.out⟩
      · have hb : ((y : Int) / 2 != (e : Int)) = true := by simp; omega
        have HYs := Lib.hid (hyes ho)
        have HEa := Lib.hid (HE.out.alloc (.cells #[.int .i64 (y : Int)] 3))
        have HOa := Lib.hid (HO6.out.alloc (.cells #[.int .i64 (y : Int)] 3))
        have HLe := Lib.hid hle
        clear ho hyes hno hle
        go_wp2_with (at_builtin; refine wpList_app_int (R := R) (B := w2.heap.size) rfl _ _ rfl HOa.out rfl ⟨wr.heap.size, 0, none⟩ 1 (y : Int) ?a0 ?a1 ?a2 ?a3 ?a4 ?_)
        case a0 => first | rfl | simp
        case a1 => first | rfl | simp
        case a2 => have := HLe.out; omega
        case a3 => simp; omega
        case a4 => exact fun q hq => HEa.out.inv.none_of_ge (by simp at hq ⊢; omega)
        intro v8 w6 ho8 hg6 hs6
        obtain ⟨a8, c8, rfl, _⟩ := ho8.ints.open
        rw [← HYs.out] at ho8 hs6 ⊢
        obtain ⟨l8, hl8⟩ : ∃ l, (toI (fromTo xs e (i + 1))).length = l := ⟨_, rfl⟩
        rw [hl8] at ho8 hs6 ⊢
        have HE8 := Lib.hid (HEa.out.app HOa.out (Nat.le_refl _) hg6)
        have HO8 := Lib.hid ho8
        clear hl8 ho8 hg6 hs6
        go_wp2_with fail
        go_roundg (m - (i + 1))
        case measure => omega
        case rel => exact ⟨i + 1, a8, l8, c8, by omega, by omega, by go_num, rfl, HE8.out, HO8.out⟩
    · obtain rfl : i = m := by omega
      go_wp2_with fail
      go_ret
      exact ⟨_, rfl, HE2.out.trans HE.out, HO6.out.mono HE2.out.size⟩

end Go.Proofs.YtcnmbenfnpjkjaaGreat

namespace Go.Proofs.YtcnmbenfnpjkjaaGreat
open Go.RowKit Go.Maps
set_option linter.unusedVariables false

/-- a key of a literal's, as a run of its own -/
theorem run_fins {w : World} {R : Reg} {b n c : Nat} {f : Int → Option Int} (h : FMap R w b n f c) (hn : n < 8388608) (y u : Int)
    (hy : -9223372036854775808 ≤ y ∧ y ≤ 9223372036854775807) (hu : -9223372036854775808 ≤ u ∧ u ≤ 9223372036854775807) :
    ∃ w', Sem.run Tryz.prog (Instr.mapUpdate 47 (.map (some b)) (.int .i64 y) (.int .i64 u)) w = Result.ok () w' ∧ FMap R w' b (n + 1) (updF f y u) (if (f y).isSome then c else c + 1) ∧ w.grownBy w' (some b) := by
  obtain ⟨hb, D, h1, h2, h3, h4⟩ := h
  have hwy : (Lit.int .i64 y).wf = true := WalkArith.wf_i64 (by omega)
  have hwu : (Lit.int .i64 u).wf = true := WalkArith.wf_i64 (by omega)
  obtain ⟨w', hrun, r1, r2⟩ := h1.update mapKeyed Tryz.underlying47 (by unfold maxLen; omega) (keyOf_int_mk Tryz.underlying3 hwy) (plainElem_int Tryz.underlying3 hwu)
  exact ⟨w', hrun, FMap.putD hb (h1.tidy mapKeyed) h2 h3 h4 y u r1, r2⟩

/-- a slice's value that holds a list, in none of X's blocks -/
def RowOk (R : Reg) (w : World) (X : Nat → Prop) (u : Value) (xs : List Nat) : Prop := ∃ a c, u = .slice a xs.length c ∧ FreeI R w (.slice a xs.length c) (toI xs) ∧ ∀ k, (Value.slice a xs.length c).ownBlock = some k → ¬ X k ∧ k < w.heap.size
theorem RowOk.ev {R R' : Reg} {w w' : World} {X : Nat → Prop} {u : Value} {xs : List Nat} (h : RowOk R w X u xs) (he : Ev R w R' w') : RowOk R' w' X u xs := by
  obtain ⟨a, c, e, hf, hb⟩ := h
  exact ⟨a, c, e, hf.ev he, fun k hk => ⟨(hb k hk).1, Nat.lt_of_lt_of_le (hb k hk).2 he.size⟩⟩
theorem RowOk.kept {R : Reg} {w w' : World} {X : Nat → Prop} {row : Option Nat} {u : Value} {xs : List Nat} (h : RowOk R w X u xs) (hg : w.grownBy w' row) (hx : ∀ k, row = some k → X k) : RowOk R w' X u xs := by
  obtain ⟨a, c, e, hf, hb⟩ := h
  refine ⟨a, c, e, ?_, fun k hk => ⟨(hb k hk).1, Nat.lt_of_lt_of_le (hb k hk).2 hg.size⟩⟩
  obtain ⟨⟨a', cap, h1, h2, h3, h4⟩, hfr⟩ := hf
  refine ⟨⟨a', cap, h1, h2, h3, fun i hi => ?_⟩, hfr⟩
  obtain ⟨b, off, e2, hc⟩ := h4 i hi
  subst e2
  refine ⟨b, off, rfl, ?_⟩
  have hb2 := hg.block b (lt_of_cell hc) (fun e3 => (hb b (by rw [h1]; rfl)).1 (hx b e3.symm))
  simp only [World.cell?, hb2] at hc ⊢
  exact hc
theorem RowOk.re {R : Reg} {w : World} {X X' : Nat → Prop} {u : Value} {xs : List Nat} (h : RowOk R w X u xs) (hx : ∀ k, k < w.heap.size → ¬ X k → ¬ X' k) : RowOk R w X' u xs := by
  obtain ⟨a, c, e, hf, hb⟩ := h
  exact ⟨a, c, e, hf, fun k hk => ⟨hx k (hb k hk).2 (hb k hk).1, (hb k hk).2⟩⟩
/-- rows of rows -/
structure RowsLL (R : Reg) (w : World) (X : Nat → Prop) (vs : List Value) (xss : List (List Nat)) : Prop where
  len : vs.length = xss.length
  row : ∀ i, i < xss.length → ∃ u, vs[i]? = some u ∧ RowOk R w X u (xss.getD i [])
theorem RowsLL.nil (R : Reg) (w : World) (X : Nat → Prop) : RowsLL R w X [] [] := ⟨rfl, fun i hi => by simp at hi⟩
theorem RowsLL.ev {R R' : Reg} {w w' : World} {X : Nat → Prop} {vs : List Value} {xss : List (List Nat)} (h : RowsLL R w X vs xss) (he : Ev R w R' w') : RowsLL R' w' X vs xss :=
  ⟨h.len, fun i hi => by obtain ⟨u, h1, h2⟩ := h.row i hi; exact ⟨u, h1, h2.ev he⟩⟩
theorem RowsLL.kept {R : Reg} {w w' : World} {X : Nat → Prop} {row : Option Nat} {vs : List Value} {xss : List (List Nat)} (h : RowsLL R w X vs xss) (hg : w.grownBy w' row) (hx : ∀ k, row = some k → X k) : RowsLL R w' X vs xss :=
  ⟨h.len, fun i hi => by obtain ⟨u, h1, h2⟩ := h.row i hi; exact ⟨u, h1, h2.kept hg hx⟩⟩
theorem RowsLL.re {R : Reg} {w : World} {X X' : Nat → Prop} {vs : List Value} {xss : List (List Nat)} (h : RowsLL R w X vs xss) (hx : ∀ k, k < w.heap.size → ¬ X k → ¬ X' k) : RowsLL R w X' vs xss :=
  ⟨h.len, fun i hi => by obtain ⟨u, h1, h2⟩ := h.row i hi; exact ⟨u, h1, h2.re hx⟩⟩
theorem RowsLL.app {R : Reg} {w : World} {X : Nat → Prop} {vs : List Value} {xss : List (List Nat)} (h : RowsLL R w X vs xss) {u : Value} {xs : List Nat} (hu : RowOk R w X u xs) : RowsLL R w X (vs ++ [u]) (xss ++ [xs]) := by
  refine ⟨by simp [h.len], fun i hi => ?_⟩
  rw [List.length_append, List.length_singleton] at hi
  by_cases hl : i < xss.length
  · obtain ⟨v, h1, h2⟩ := h.row i hl
    refine ⟨v, by rw [List.getElem?_append_left (by rw [h.len]; exact hl)]; exact h1, ?_⟩
    simpa [List.getD, List.getElem?_append_left hl] using h2
  · have e : i = xss.length := by omega
    subst e
    refine ⟨u, by rw [← h.len]; simp, ?_⟩
    simpa [List.getD] using hu

/-- who is met first: of a vertex that the edge isn't at -/
def repB (s : List Nat) (e d : Nat) : Bool := !decide (nth (namesL s) d = nth (namesL s) (2 * e)) && !decide (nth (namesL s) d = nth (namesL s) (2 * e + 1)) && (List.range d).all fun x => !decide (nth (namesL s) x = nth (namesL s) d)
def repsTo (s : List Nat) (e i : Nat) : List Nat := (List.range i).filter (repB s e)
theorem repsTo_succ (s : List Nat) (e i : Nat) : repsTo s e (i + 1) = if repB s e i = true then repsTo s e i ++ [i] else repsTo s e i := by
  unfold repsTo
  rw [List.range_succ, List.filter_append]
  by_cases h : repB s e i = true
  · rw [if_pos h]; simp [h]
  · rw [if_neg h]; simp [h]
/-- what is done, so far -/
def doneF (s : List Nat) (e i : Nat) (k : Int) : Option Int := if k = nth (namesL s) (2 * e) ∨ k = nth (namesL s) (2 * e + 1) ∨ ∃ x, x < i ∧ nth (namesL s) x = k then some 1 else none

theorem doneF_zero (s : List Nat) (e : Nat) : updF (updF (fun _ => none) (nth (namesL s) (2 * e)) 1) (nth (namesL s) (2 * e + 1)) 1 = doneF s e 0 := by
  funext k
  unfold doneF updF
  dsimp only
  by_cases h1 : k = nth (namesL s) (2 * e + 1)
  · simp [h1]
  · by_cases h2 : k = nth (namesL s) (2 * e)
    · simp [h2]
    · rw [if_neg h1, if_neg h2, if_neg]
      rintro (h | h | ⟨x, hx, _⟩)
      · exact h2 h
      · exact h1 h
      · omega
theorem updF_id {f : Int → Option Int} {y u : Int} (h : f y = some u) : updF f y u = f := by
  funext k
  unfold updF
  by_cases e : k = y
  · rw [if_pos e, e, h]
  · rw [if_neg e]
theorem updF_comm (f : Int → Option Int) (x y u : Int) : updF (updF f x u) y u = updF (updF f y u) x u := by
  funext k
  unfold updF
  by_cases h1 : k = x <;> by_cases h2 : k = y <;> simp [h1, h2]
theorem doneF_succ (s : List Nat) (e i : Nat) : updF (doneF s e i) (nth (namesL s) i) 1 = doneF s e (i + 1) := by
  funext k
  unfold doneF updF
  dsimp only
  by_cases h1 : k = nth (namesL s) i
  · rw [if_pos h1, if_pos (Or.inr (Or.inr ⟨i, by omega, h1.symm⟩))]
  · rw [if_neg h1]
    by_cases h2 : k = nth (namesL s) (2 * e) ∨ k = nth (namesL s) (2 * e + 1) ∨ ∃ x, x < i ∧ nth (namesL s) x = k
    · rw [if_pos h2, if_pos]
      rcases h2 with h | h | ⟨x, hx, h⟩
      · exact Or.inl h
      · exact Or.inr (Or.inl h)
      · exact Or.inr (Or.inr ⟨x, by omega, h⟩)
    · rw [if_neg h2, if_neg]
      rintro (h | h | ⟨x, hx, h⟩)
      · exact h2 (Or.inl h)
      · exact h2 (Or.inr (Or.inl h))
      · by_cases hxi : x = i
        · subst hxi; exact h1 h.symm
        · exact h2 (Or.inr (Or.inr ⟨x, by omega, h⟩))
theorem doneF_rep {s : List Nat} {e i : Nat} : doneF s e i (nth (namesL s) i) = if repB s e i = true then none else some 1 := by
  unfold doneF
  have hr : repB s e i = true ↔ ¬ (nth (namesL s) i = nth (namesL s) (2 * e) ∨ nth (namesL s) i = nth (namesL s) (2 * e + 1) ∨ ∃ x, x < i ∧ nth (namesL s) x = nth (namesL s) i) := by
    unfold repB
    rw [Bool.and_eq_true, Bool.and_eq_true, List.all_eq_true]
    constructor
    · rintro ⟨⟨h1, h2⟩, h3⟩ (h | h | ⟨x, hx, h⟩)
      · simp [h] at h1
      · simp [h] at h2
      · have := h3 x (List.mem_range.2 hx); simp [h] at this
    · intro h
      refine ⟨⟨?_, ?_⟩, fun x hx => ?_⟩
      · simp; exact fun k => h (Or.inl k)
      · simp; exact fun k => h (Or.inr (Or.inl k))
      · simp; exact fun k => h (Or.inr (Or.inr ⟨x, List.mem_range.1 hx, k⟩))
  by_cases h : repB s e i = true
  · rw [if_pos h, if_neg (hr.1 h)]
  · rw [if_neg h, if_pos]
    by_cases hx : nth (namesL s) i = nth (namesL s) (2 * e) ∨ nth (namesL s) i = nth (namesL s) (2 * e + 1) ∨ ∃ x, x < i ∧ nth (namesL s) x = nth (namesL s) i
    · exact hx
    · exact absurd (hr.2 hx) h

theorem islice_info : (Tryz.prog.info? 24).map (fun i => (i.zero, i.size, i.bytes)) = some (some nilS, 1, 24) := by kernel_rfl

/-- lists of lists come back -/
def RetLL (R : Reg) (w : World) (xss : List (List Nat)) (z : Ending) (w' : World) : Prop :=
  ∃ a c vs, z = .returned (.slice a xss.length c) ∧ Ev R w R w' ∧ OwnV R w.heap.size 24 1 w' (.slice a xss.length c) xss.length vs ∧ RowsLL R w' (fun k => (Value.slice a xss.length c).ownBlock = some k) vs xss

set_option maxRecDepth 100000 in
set_option maxHeartbeats 2000000 in
theorem others_any (R : Reg) (w : World) (hI : Inv R w) (v : Value) (s : List Nat) (root lone : Int) (hv : FreeI R w v (toI s)) (hS : IsPerm s) (hn : s.length ≤ 1000000) (e : Nat) (he : 2 * e + 2 ≤ s.length) :
    Calls Tryz.prog 58 #[refV v root lone, .int .i64 (e : Int)] w (RetLL R w ((repsTo s e s.length).map fun d => orbitL s d)) := by
  obtain ⟨a0, cap0, rfl, hv0⟩ := hv.open
  rw [toI_length] at hv hv0 ⊢
  have HOr := Lib.hid (fun R' w' (hee : Ev R w R' w') d (hd : d < s.length) => rorbit_any R' w' hee.inv _ s (hv.ev hee) hS (by omega) d hd)
  have HNm := Lib.hid (fun R' w' (hee : Ev R w R' w') => rnames_any R' w' hee.inv _ s (hv.ev hee) hS (by omega))
  have hnl := namesL_length s
  have HNb := Lib.hid (fun d (hd : d < s.length) => (by have h1 := (namesL_ord hS).bound hd; have h2 := (namesL_ord hS).cnt_le (k := d + 1) (by omega); omega : 0 ≤ nth (namesL s) d ∧ nth (namesL s) d ≤ 4000000))
  have HNl := Lib.hid hnl
  unfold refV
  have he1 : Ev R w R (w.alloc (.cells #[.slice a0 s.length cap0, .int .i64 root, .int .i64 lone] 26)) := (Ev.refl hI).alloc _
  have hn1 : R w.heap.size = none := hI.none_of_ge (Nat.le_refl _)
  have HB1 := Lib.hid (fun w' (h : Ev R (w.alloc (.cells #[.slice a0 s.length cap0, .int .i64 root, .int .i64 lone] 26)) R w') => h.box3 (heap_alloc_new w _) hn1)
  have HE1 := Lib.hid he1
  obtain ⟨x0, x1, x2, _⟩ := box_cells (HB1.out _ (Ev.refl he1.inv)).1
  have hw2 : IntKind.i64.wrap (2 * (e : Int)) = ((2 * e : Nat) : Int) := by rw [show 2 * (e : Int) = ((2 * e : Nat) : Int) by omega]; exact IntWalk.i64_in _ (by omega)
  have hw3 : IntKind.i64.wrap (((2 * e : Nat) : Int) + 1) = ((2 * e + 1 : Nat) : Int) := by rw [show ((2 * e : Nat) : Int) + 1 = ((2 * e + 1 : Nat) : Int) by omega]; exact IntWalk.i64_in _ (by omega)
  clear hI hv hv0 hS he1 hn1 hnl
  go_enter Tryz.func58, Tryz.ntmps58
  go_wp2_with fail
  refine (HNm.out _ _ HE1.out).mono ?_
  rintro z w2 ⟨v2, rfl, he2, ho2⟩
  obtain ⟨a2, c2, rfl, _⟩ := ho2.ints.open
  rw [HNl.out] at ho2 ⊢
  have HE2 := Lib.hid he2
  have HO2 := Lib.hid ho2
  clear he2 ho2 x0 x1 x2
  obtain ⟨g6, rfl, _, _, k0, _⟩ := HO2.out.headAt HNl.out (i := 2 * e) (by omega)
  obtain ⟨_, e1, _, _, k1, _⟩ := HO2.out.headAt HNl.out (i := 2 * e + 1) (by omega)
  cases e1
  obtain ⟨ea, hea⟩ : ∃ x, 2 * e = x := ⟨_, rfl⟩
  obtain ⟨eb, heb⟩ : ∃ x, ea + 1 = x := ⟨_, rfl⟩
  rw [hea] at hw2 hw3 k0 k1
  rw [heb] at hw3 k1
  have i0 : (ea : Int) < (s.length : Int) := by omega
  have i1 : (eb : Int) < (s.length : Int) := by omega
  have hmm := @run_makeMap Tryz.prog
  have HM0 : Hid (FMap R ((w2.alloc (.map #[] 0)).drew) w2.heap.size 0 (fun _ => none) 0) := Lib.hid (FMap.made HE2.out.inv)
  have HEm := Lib.hid ((HE2.out.drew).alloc (.map #[] 0))
  obtain ⟨y0, hy0⟩ : ∃ x, nth (namesL s) ea = x := ⟨_, rfl⟩
  obtain ⟨y1, hy1⟩ : ∃ x, nth (namesL s) eb = x := ⟨_, rfl⟩
  have hb0 := HNb.out ea (by omega)
  have hb1 := HNb.out eb (by omega)
  rw [hy0] at k0 hb0
  rw [hy1] at k1 hb1
  have hdz := doneF_zero s e
  rw [hea, heb, hy0, hy1] at hdz
  have HDz := Lib.hid hdz
  have hlt6 := lt_of_cell k0
  have HKp : Hid (∀ (w' : World) (b : Nat), w2.heap.size ≤ b → ((w2.alloc (.map #[] 0)).drew).grownBy w' (some b) → OwnI R (w.alloc (.cells #[.slice a0 s.length cap0, .int .i64 root, .int .i64 lone] 26)).heap.size 3 w' (.slice (some ⟨g6, 0, none⟩) s.length c2) (namesL s)) := Lib.hid fun w' b h hg => by
    refine (HO2.out.alloc (.map #[] 0)).drew.kept hg (Or.inr fun e => ?_)
    have h9 := (HO2.out.lt g6 rfl).2
    have e2 : g6 = b := by simpa [Value.ownBlock] using e
    omega
  have HY0 := Lib.hid hy0
  have HY1 := Lib.hid hy1
  clear hdz hea heb hy0 hy1
  go_upto_region 3 with fail
  go_cut [7] (fun s7 wx => ∃ b C, s7 = .map (some b) ∧ FMap R wx b 2 (doneF s e 0) C ∧ Ev R w2 R wx ∧ w2.heap.size ≤ b)
  case first =>
    obtain ⟨w5, hr5, hm5, hg5⟩ := run_fins HM0.out (by omega) y0 1 (by omega) (by omega)
    obtain ⟨w6, hr6, hm6, hg6⟩ := run_fins hm5 (by omega) y1 1 (by omega) (by omega)
    have hkp := HKp.out _ _ (Nat.le_refl _) hg5
    obtain ⟨_, e0, _, _, l0, _⟩ := hkp.headAt HNl.out (i := ea) (by omega)
    cases e0
    obtain ⟨_, e1, _, _, l1, _⟩ := hkp.headAt HNl.out (i := eb) (by omega)
    cases e1
    rw [HY0.out] at l0
    rw [HY1.out] at l1
    rw [HDz.out] at hm6
    have HM6 := Lib.hid hm6
    have HE6 := Lib.hid (((Ev.refl HE2.out.inv).alloc (.map #[] 0)).drew.mput HM0.out (Nat.le_refl _) hg5 |>.mput hm5 (Nat.le_refl _) hg6)
    clear hm5 hm6 hg5 hg6 hkp
    obtain ⟨w5', hr5', hm5, hg5⟩ := run_fins HM0.out (by omega) y1 1 (by omega) (by omega)
    obtain ⟨w6', hr6', hm6, hg6⟩ := run_fins hm5 (by omega) y0 1 (by omega) (by omega)
    have hkp := HKp.out _ _ (Nat.le_refl _) hg5
    obtain ⟨_, e0, _, _, l0', _⟩ := hkp.headAt HNl.out (i := ea) (by omega)
    cases e0
    obtain ⟨_, e1, _, _, l1', _⟩ := hkp.headAt HNl.out (i := eb) (by omega)
    cases e1
    rw [HY0.out] at l0'
    rw [HY1.out] at l1'
    rw [updF_comm, HDz.out] at hm6
    have HM6' := Lib.hid hm6
    have HE6' := Lib.hid (((Ev.refl HE2.out.inv).alloc (.map #[] 0)).drew.mput HM0.out (Nat.le_refl _) hg5 |>.mput hm5 (Nat.le_refl _) hg6)
    clear hm5 hm6 hg5 hg6 hkp
    go_region
    all_goals (go_wp2_with fail; go_meet)
    all_goals first
      | exact ⟨_, _, rfl, HM6.out, HE6.out, Nat.le_refl _⟩
      | exact ⟨_, _, rfl, HM6'.out, HE6'.out, Nat.le_refl _⟩
  case rest =>
    obtain ⟨b, C0, rfl, hm, hev, hbz⟩ := hcut
    obtain ⟨w4, hw4⟩ : ∃ w4, w4 = wc := ⟨_, rfl⟩
    subst hw4
    have HM4 := Lib.hid hm
    have HE4 := Lib.hid hev
    have HBz := Lib.hid hbz
    have HO4 := Lib.hid (HO2.out.ev hev)
    have HO2a := HO2
    obtain ⟨n, hnn⟩ : ∃ n, s.length = n := ⟨_, rfl⟩
    have HSn := Lib.hid hnn
    rw [hnn] at HOr ⊢
    clear hnn hm hev k0 k1 hlt6 HO2 HM0 HEm hmm HKp HDz hb0 hb1 HY0 HY1 i0 i1 hw2 hw3
    go_wp2_with fail
    go_loopg [5, 28] n (fun g v5 v28 wr => ∃ (i : Nat) (a6 : Option Addr) (l6 c6 k C : Nat) (vs : List Value), i ≤ n ∧ n - i ≤ g ∧ k ≤ i + 2 ∧ v28 = .int .i64 (i : Int) ∧ v5 = .slice a6 l6 c6 ∧ l6 = (repsTo s e i).length ∧ Ev R w2 R wr ∧ FMap R wr b k (doneF s e i) C ∧ OwnV R w2.heap.size 24 1 wr (.slice a6 l6 c6) l6 vs ∧ RowsLL R wr (fun q => q = b ∨ (Value.slice a6 l6 c6).ownBlock = some q) vs ((repsTo s e i).map fun d => orbitL s d) ∧ (Value.slice a6 l6 c6).ownBlock ≠ some b)
    case atStart => exact ⟨0, none, 0, 0, 2, C0, [], Nat.zero_le _, by omega, by omega, rfl, rfl, rfl, HE4.out, HM4.out, OwnV.nil _ _ _ _ _, RowsLL.nil _ _ _, by simp [Value.ownBlock]⟩
    case round =>
      obtain ⟨i, a6, l6, c6, k, C, vs, hin, hg, hk, rfl, rfl, hl6, hev, hm, hov, hrw, hds⟩ := hrel
      have HE := Lib.hid hev
      have HMi := Lib.hid hm
      have HOv := Lib.hid hov
      have HRw := Lib.hid hrw
      have HDs := Lib.hid hds
      have HL6 := Lib.hid hl6
      clear hev hm hov hrw hds hl6
      by_cases hil : i < n
      · have his : i < s.length := by rw [HSn.out]; exact hil
        obtain ⟨_, e1, _, _, k0, _⟩ := (HO2a.out.ev HE.out).headAt HNl.out his
        cases e1
        have hyb := HNb.out i his
        have hlk := HMi.out.look (nth (namesL s) i) (by omega)
        rw [doneF_rep] at hlk
        have hsu := doneF_succ s e i
        have hrs := repsTo_succ s e i
        have hdr := doneF_rep (s := s) (e := e) (i := i)
        obtain ⟨y, hy⟩ : ∃ y, nth (namesL s) i = y := ⟨_, rfl⟩
        rw [hy] at k0 hyb hlk hsu hdr
        have hrl : (repsTo s e i).length ≤ i := by unfold repsTo; have := List.length_filter_le (repB s e) (List.range i); rwa [List.length_range] at this
        clear hy
        by_cases hr : repB s e i = true
        · rw [if_pos hr] at hlk hrs
          have hlk' : (Instr.lookup 47 (.map (some b)) (.int .i64 y) false).run Tryz.prog wr = .ok (.int .i64 0) wr := hlk
          have HSu := Lib.hid hsu
          have HRs := Lib.hid hrs
          have HRl := Lib.hid hrl
          clear hlk hsu hrs hr hdr hrl
          have hbwr : b < wr.heap.size := HMi.out.lt
          go_wp2_with (first | (at_mapUpdate; refine wpList_fput rfl _ _ _ rfl HMi.out (by omega) y 1 rfl rfl rfl (by omega) (by omega) ?_; intro w5 hm5 hg5; rw [HSu.out] at hm5; have HM5 := Lib.hid hm5; have HE5 := Lib.hid (HE.out.mput HMi.out HBz.out hg5); have HOv5 := Lib.hid (HOv.out.kept hg5 (Or.inr HDs.out)); have HRw5 := Lib.hid (HRw.out.kept hg5 fun q hq => Or.inl (by injection hq with hq; exact hq.symm)); have HZ5 := Lib.hid hg5.size; obtain ⟨x0, x1, x2, _⟩ := box_cells (HB1.out _ (HE2.out.trans HE5.out)).1; rw [HSn.out] at x0; clear hm5 hg5 k0 hlk') | fail)
          refine (HOr.out _ _ (HE1.out.trans (HE2.out.trans HE5.out)) i hil).mono ?_
          rintro z w6 ⟨v6, rfl, he6, ho6⟩
          obtain ⟨a7, c7, rfl, hv7⟩ := ho6.ints.open
          rw [toI_length] at hv7 ho6 ⊢
          obtain ⟨LL, hLL⟩ : ∃ k, (orbitL s i).length = k := ⟨_, rfl⟩
          have hro : RowOk R w6 (fun q => q = b ∨ (Value.slice a6 l6 c6).ownBlock = some q) (.slice a7 LL c7) (orbitL s i) := ⟨a7, c7, by rw [hLL], ho6.free, fun q hq => ⟨fun hx => (by
            have h1 := ho6.lt q hq
            have h2 := HZ5.out
            rcases hx with hx | hx
            · omega
            · have h3 := (HOv5.out.lt q hx).2; omega), (ho6.lt q hq).2⟩⟩
          rw [hLL]
          have HRo := Lib.hid hro
          have HE6 := Lib.hid (HE5.out.trans he6)
          have HM6 := Lib.hid ((HM5.out.ev he6).alloc (.cells #[.slice a7 LL c7] 24))
          have HOv6 := Lib.hid ((HOv5.out.ev he6).alloc (.cells #[.slice a7 LL c7] 24))
          have HRw6 := Lib.hid (((HRw5.out.ev he6).app hro).ev ((Ev.refl he6.inv).alloc (.cells #[.slice a7 LL c7] 24)))
          have HE7 := Lib.hid (HE6.out.alloc (.cells #[.slice a7 LL c7] 24))
          have hz6 : w2.heap.size ≤ w6.heap.size := HE6.out.size
          have hbz6 : b < w6.heap.size := HM6.out.lt |> fun h => by have := HZ5.out; have := he6.size; omega
          clear he6 ho6 hv7 hro hLL x0 x1 x2
          go_wp2_with (at_builtin; refine wpList_app_row 71 24 1 24 nilS Tryz.underlying71 islice_info rfl (by decide) (by decide) rfl _ _ rfl HOv6.out rfl ⟨w6.heap.size, 0, none⟩ 1 1 [.slice a7 LL c7] rfl ?a0 ?a1 ?a2 ?a3 ?a4 ?a5 ?_)
          case a0 => first | rfl | simp
          case a1 =>
            intro j u hj
            match j, hj with
            | 0, hj =>
              simp only [List.getElem?_cons_zero, Option.some.injEq] at hj
              subst hj
              simp [Addr.add]
          case a2 =>
            intro u hu
            simp only [List.mem_singleton] at hu
            subst hu
            rfl
          case a3 => have := HL6.out; have := HRl.out; omega
          case a4 => simp; omega
          case a5 => exact fun q hq => HE7.out.inv.none_of_ge (by simp at hq ⊢; omega)
          intro v8 w8 ho8 hg8 hs8
          obtain ⟨a8, c8, rfl, _⟩ := ho8.open
          have hb8 : (Value.slice a8 (l6 + 1) c8).ownBlock ≠ some b := fun h => by
            rcases hs8 b h with h1 | h1
            · exact HDs.out h1
            · first | omega | (simp at h1; omega)
          have HE8 := Lib.hid (HE7.out.appV HOv6.out (Nat.le_refl _) hg8)
          have HM8 := Lib.hid (HM6.out.kept hg8 HDs.out)
          have hrw7 := HRw6.out.re (X' := fun q => (q = b ∨ (Value.slice a6 l6 c6).ownBlock = some q) ∨ (Value.slice a8 (l6 + 1) c8).ownBlock = some q) fun q hq hx hx' => by
            rcases hx' with h1 | h1
            · exact hx h1
            · rcases hs8 q h1 with h2 | h2
              · exact hx (Or.inr h2)
              · have h3 := hq
                simp at h2 h3
                omega
          have HRw8 := Lib.hid ((hrw7.kept hg8 fun q hq => Or.inl (Or.inr hq)).re (X' := fun q => q = b ∨ (Value.slice a8 (l6 + 1) c8).ownBlock = some q) fun q _ hx h' => hx (h'.elim (fun h => Or.inl (Or.inl h)) Or.inr))
          have HO8 := Lib.hid ho8
          have HDs8 := Lib.hid hb8
          clear ho8 hg8 hs8 hb8 hrw7
          go_wp2_with fail
          go_roundg (n - (i + 1))
          case measure => omega
          case rel => exact ⟨i + 1, a8, l6 + 1, c8, k + 1, _, _, by omega, by omega, by omega, by go_num, rfl, by rw [HRs.out, List.length_append, List.length_singleton, HL6.out], HE8.out, HM8.out, HO8.out, by rw [HRs.out, List.map_append]; exact HRw8.out, HDs8.out⟩
        · rw [if_neg hr] at hlk hrs
          have hlk' : (Instr.lookup 47 (.map (some b)) (.int .i64 y) false).run Tryz.prog wr = .ok (.int .i64 1) wr := hlk
          have hsd : doneF s e (i + 1) = doneF s e i := by
            rw [← hsu]
            rw [if_neg hr] at hdr
            exact updF_id hdr
          have HSd := Lib.hid hsd
          have HRs := Lib.hid hrs
          clear hlk hsu hrs hr hsd hdr
          go_wp2_with fail
          go_roundg (n - (i + 1))
          case measure => omega
          case rel => exact ⟨i + 1, a6, l6, c6, k, C, vs, by omega, by omega, by omega, by go_num, rfl, by rw [HRs.out]; exact HL6.out, HE.out, by rw [HSd.out]; exact HMi.out, HOv.out, by rw [HRs.out]; exact HRw.out, HDs.out⟩
      · obtain rfl : i = n := by omega
        go_wp2_with fail
        go_ret
        refine ⟨a6, c6, vs, ?_, ?_, ?_, ?_⟩
        · rw [HSn.out, List.length_map, ← HL6.out]; rfl
        · exact HE1.out.trans (HE2.out.trans HE.out)
        · rw [HSn.out, List.length_map, ← HL6.out]
          exact HOv.out.mono (HE1.out.trans HE2.out).size
        · rw [HSn.out, List.length_map, ← HL6.out]
          exact HRw.out.re fun q hq hx h => hx (Or.inr h)

end Go.Proofs.YtcnmbenfnpjkjaaGreat

namespace Go.Proofs.YtcnmbenfnpjkjaaGreat
set_option linter.unusedVariables false

theorem repB_iff {s : List Nat} {e i : Nat} : repB s e i = true ↔ nth (namesL s) i ≠ nth (namesL s) (2 * e) ∧ nth (namesL s) i ≠ nth (namesL s) (2 * e + 1) ∧ ∀ x, x < i → nth (namesL s) x ≠ nth (namesL s) i := by
  unfold repB
  rw [Bool.and_eq_true, Bool.and_eq_true, List.all_eq_true]
  constructor
  · rintro ⟨⟨h1, h2⟩, h3⟩
    refine ⟨by simpa using h1, by simpa using h2, fun x hx => by simpa using h3 x (List.mem_range.2 hx)⟩
  · rintro ⟨h1, h2, h3⟩
    exact ⟨⟨by simpa using h1, by simpa using h2⟩, fun x hx => by simpa using h3 x (List.mem_range.1 hx)⟩
theorem mem_reps {s : List Nat} {e n d : Nat} : d ∈ repsTo s e n ↔ d < n ∧ repB s e d = true := by
  unfold repsTo; rw [List.mem_filter, List.mem_range]
/-- the first of a class -/
theorem first_of (N : Nat → Int) : ∀ x, ∃ d, d ≤ x ∧ N d = N x ∧ ∀ y, y < d → N y ≠ N x := fun x => by
  induction x using Nat.strongRecOn with
  | ind x ih =>
    by_cases h : ∃ y, y < x ∧ N y = N x
    · obtain ⟨y, hy, e⟩ := h
      obtain ⟨d, h1, h2, h3⟩ := ih y hy
      exact ⟨d, by omega, by rw [h2, e], fun z hz => by rw [← e]; exact h3 z hz⟩
    · exact ⟨x, Nat.le_refl _, rfl, fun y hy e => h ⟨y, hy, e⟩⟩

section
variable {s : List Nat} (hs : IsPerm s) {e : Nat}
include hs

theorem rep_own {d : Nat} (hd : d ∈ repsTo s e s.length) : ∀ x, x ∈ orbitL s d → ¬ x / 2 = e := fun x hx ho => by
  obtain ⟨h1, h2⟩ := mem_reps.1 hd
  obtain ⟨k1, k2, _⟩ := repB_iff.1 h2
  have h3 := ((names_orbit hs h1).1 hx).2
  have h4 : x = 2 * e ∨ x = 2 * e + 1 := by omega
  rcases h4 with rfl | rfl
  · exact k1 h3.symm
  · exact k2 h3.symm
theorem rep_has {x : Nat} (hx : x < s.length) (h1 : nth (namesL s) x ≠ nth (namesL s) (2 * e)) (h2 : nth (namesL s) x ≠ nth (namesL s) (2 * e + 1)) : ∃ d, d ∈ repsTo s e s.length ∧ x ∈ orbitL s d := by
  obtain ⟨d, h3, h4, h5⟩ := first_of (fun d => nth (namesL s) d) x
  have hd : d < s.length := by omega
  have h4' : nth (namesL s) d = nth (namesL s) x := h4
  exact ⟨d, mem_reps.2 ⟨hd, repB_iff.2 ⟨by rw [h4']; exact h1, by rw [h4']; exact h2, fun y hy => by rw [h4']; exact h5 y hy⟩⟩, (names_orbit hs hd).2 ⟨hx, h4'.symm⟩⟩
end
/-- Cut's lists -/
def cutRows (s : List Nat) (e : Nat) : List (List Nat) := ((repsTo s e s.length).map fun d => orbitL s d) ++ ([fromL s (2 * e) e] ++ if nth (namesL s) (2 * e) = nth (namesL s) (2 * e + 1) then [] else [fromL s (2 * e + 1) e])
section
variable {s : List Nat} (hs : IsPerm s) {e : Nat} (hn : 2 * e + 2 ≤ s.length)
include hs hn
theorem cutRows_done : layAll e (cutRows s e) (List.replicate (s.length - 2) 0) = doneL s e := by
  have hr : (repsTo s e s.length).map (fun d => orbitL s d) = (repsTo s e s.length).map fun d => fromL s d e := List.map_congr_left fun d hd => (from_all (rep_own hs hd)).symm
  have hrl : ∀ d, d ∈ repsTo s e s.length → d < s.length := fun d hd => (mem_reps.1 hd).1
  unfold cutRows
  by_cases hne : nth (namesL s) (2 * e) = nth (namesL s) (2 * e + 1)
  · rw [if_pos hne, hr, List.append_nil]
    have := layAll_done hs hn (ds := repsTo s e s.length ++ [2 * e]) (fun d hd => by
      rcases List.mem_append.1 hd with h | h
      · exact hrl d h
      · have := List.mem_singleton.1 h; omega) (fun x hx ho => by
      by_cases h1 : nth (namesL s) x = nth (namesL s) (2 * e)
      · exact ⟨2 * e, by simp, (names_orbit hs (by omega)).2 ⟨hx, h1⟩⟩
      · obtain ⟨d, hd, hm⟩ := rep_has hs hx h1 (by rw [← hne]; exact h1)
        exact ⟨d, List.mem_append_left _ hd, hm⟩)
    rwa [List.map_append] at this
  · rw [if_neg hne, hr]
    have := layAll_done hs hn (ds := repsTo s e s.length ++ [2 * e, 2 * e + 1]) (fun d hd => by
      rcases List.mem_append.1 hd with h | h
      · exact hrl d h
      · simp at h; omega) (fun x hx ho => by
      by_cases h1 : nth (namesL s) x = nth (namesL s) (2 * e)
      · exact ⟨2 * e, by simp, (names_orbit hs (by omega)).2 ⟨hx, h1⟩⟩
      · by_cases h2 : nth (namesL s) x = nth (namesL s) (2 * e + 1)
        · exact ⟨2 * e + 1, by simp, (names_orbit hs (by omega)).2 ⟨hx, h2⟩⟩
        · obtain ⟨d, hd, hm⟩ := rep_has hs hx h1 h2
          exact ⟨d, List.mem_append_left _ hd, hm⟩)
    rwa [List.map_append] at this

/-- how many lists are empty -/
def emptyN (xss : List (List Nat)) : Int := (xss.map fun v => if v.length = 0 then (1 : Int) else 0).sum
theorem from_empty {d : Nat} : (fromL s d e).length = 0 ↔ bareB s e d = true := by
  have _h := hs
  have _h2 := hn
  rw [List.length_eq_zero_iff]
  unfold fromL bareB ownB
  rw [List.filter_eq_nil_iff, List.all_eq_true]
  simp
theorem cutRows_empty : emptyN (cutRows s e) = cutLone s e := by
  have h0 : ((repsTo s e s.length).map fun d => orbitL s d).map (fun v => if v.length = 0 then (1 : Int) else 0) = (repsTo s e s.length).map fun _ => 0 := by
    rw [List.map_map]
    refine List.map_congr_left fun d _ => ?_
    show (if (orbitL s d).length = 0 then (1 : Int) else 0) = 0
    rw [if_neg (by simp [orbitL])]
  have hz : ∀ l : List Nat, (l.map fun _ => (0 : Int)).sum = 0 := fun l => by induction l with
    | nil => rfl
    | cons a l ih => simp [ih]
  have ho : ∀ d, (if fromL s d e = [] then (1 : Int) else 0) = oneIf (bareB s e d) := fun d => by
    have h := from_empty hs hn (d := d)
    rw [List.length_eq_zero_iff] at h
    unfold oneIf
    by_cases k : fromL s d e = []
    · rw [if_pos k, if_pos (h.1 k)]
    · rw [if_neg k, if_neg (fun j => k (h.2 j))]
  unfold emptyN cutRows cutLone
  rw [List.map_append, List.sum_append, h0, hz]
  by_cases hne : nth (namesL s) (2 * e) = nth (namesL s) (2 * e + 1)
  · rw [if_pos hne, decide_eq_true hne]
    simp only [List.append_nil, List.map_cons, List.map_nil, List.sum_cons, List.sum_nil, List.length_eq_zero_iff, ho, Bool.not_true, Bool.false_and]
    simp [oneIf]
  · rw [if_neg hne, decide_eq_false hne]
    simp only [List.map_append, List.map_cons, List.map_nil, List.sum_append, List.sum_cons, List.sum_nil, List.length_eq_zero_iff, ho, Bool.not_false, Bool.true_and]
    omega
end
end Go.Proofs.YtcnmbenfnpjkjaaGreat

namespace Go.Proofs.YtcnmbenfnpjkjaaGreat
set_option linter.unusedVariables false

section
variable {s : List Nat} (hs : IsPerm s) {e : Nat} (hn : 2 * e + 2 ≤ s.length)
include hs hn
end

/-- the first of a list that isn't the edge's: its name; or nought -/
def rootIn (e : Nat) (l : List Nat) : Nat := match l.find? (fun x => !decide (x / 2 = e)) with
  | some x => nmL e x
  | none => 0
theorem rootGo_in (s : List Nat) (e : Nat) : ∀ (f d : Nat), rootGo s e f d = rootIn e ((List.range f).map fun j => it (invL s) j d)
  | 0, d => rfl
  | f + 1, d => by
    rw [List.range_succ_eq_map, List.map_cons, List.map_map]
    unfold rootGo rootIn
    by_cases h : d / 2 = e
    · rw [if_pos h, rootGo_in s e f]
      unfold rootIn
      rw [List.find?_cons_of_neg (by show ¬ (!decide (it (invL s) 0 d / 2 = e)) = true; simp [it, h])]
      rfl
    · rw [if_neg h, List.find?_cons_of_pos (by show (!decide (it (invL s) 0 d / 2 = e)) = true; simp [it, h])]
      rfl
theorem rootGo_orbit {s : List Nat} (hs : IsPerm s) {e root : Nat} (hr : root < s.length) : rootGo s e s.length root = rootIn e (orbitL (invL s) root) := by
  have hi := invL_perm hs
  have hil := invL_length s
  obtain ⟨c, hc, hcd, ho⟩ := orbitL_map hi (i := root) (by rw [hil]; exact hr)
  have hlen : c ≤ s.length := by
    have h1 := orbitL_nodup hi (i := root) (by rw [hil]; exact hr)
    have h2 : (orbitL (invL s) root).length = c := by rw [ho]; simp
    have h3 : (orbitL (invL s) root).length ≤ s.length := by
      have := List.Nodup.length_le_of_subset h1 (l₂ := List.range s.length) (fun x hx => List.mem_range.2 (by have := orbitL_lt hi (i := root) (by rw [hil]; exact hr) x hx; rwa [hil] at this))
      simpa using this
    omega
  rw [rootGo_in, ho]
  have hper : ∀ j, it (invL s) (c + j) root = it (invL s) j root := fun j => by rw [it_itf, itf_plus, ← it_itf _ c, hcd, ← it_itf]
  obtain ⟨k, hk⟩ : ∃ k, s.length = c + k := ⟨s.length - c, by omega⟩
  rw [hk, List.range_add, List.map_append]
  unfold rootIn
  rw [List.find?_append]
  cases h : ((List.range c).map fun j => it (invL s) j root).find? (fun x => !decide (x / 2 = e)) with
  | some x => rfl
  | none =>
    have hall : ∀ x, x ∈ orbitL (invL s) root → ¬ (!decide (x / 2 = e)) = true := by
      rw [ho]
      exact List.find?_eq_none.1 h
    have h2 : (((List.range k).map (fun x => c + x)).map (fun j => it (invL s) j root)).find? (fun x => !decide (x / 2 = e)) = none := List.find?_eq_none.2 fun x hx => by
      obtain ⟨j, _, rfl⟩ := List.mem_map.1 hx
      exact hall _ ((hi.mem_orbit (by rw [hil]; exact hr)).2 ⟨j, rfl⟩)
    rw [h2]
    rfl

end Go.Proofs.YtcnmbenfnpjkjaaGreat
