/- slices.Contains at []int; what the walk's tree and order are. Conditions: the list lies in memory. -/
import Derived.Test.YtnbecpeiodcohaaWalkG
namespace Go.Proofs.Ytnbecpeiodcohaa
open Go.RowKit
set_option linter.unusedVariables false

set_option maxRecDepth 100000 in
set_option maxHeartbeats 1000000 in
theorem index_any (w : World) (a : Option Addr) (n cap : Nat) (xs : List Int) (y : Int) (hv : Ints w (.slice a n cap) xs) (hn : n ≤ 8388608) :
    Calls Try.prog 89 #[.slice a n cap, .int .i64 y] w fun e w' => w' = w ∧ ∃ r : Int, e = .returned (.int .i64 r) ∧ ((r = -1 ∧ ∀ i, i < n → nth xs i ≠ y) ∨ ∃ i : Nat, r = (i : Int) ∧ i < n ∧ nth xs i = y) := by
  have HL := Lib.hid hv.length_eq
  have HV := Lib.hid hv
  clear hv
  go_enter Try.func89, Try.ntmps89
  go_wp2_with fail
  go_loopg [8] n (fun g v8 wr => ∃ i : Nat, i ≤ n ∧ n - i ≤ g ∧ v8 = .int .i64 (i : Int) ∧ wr = w ∧ ∀ j, j < i → nth xs j ≠ y)
  case atStart => exact ⟨0, by omega, by omega, rfl, rfl, fun j hj => by omega⟩
  case round =>
    obtain ⟨i, hi, hg, rfl, rfl, hall⟩ := hrel
    have HA := Lib.hid hall
    clear hall
    by_cases hil : i < n
    · obtain ⟨b, off, rfl, hc⟩ := HV.out.cell (i := i) (by have := HL.out; omega)
      obtain ⟨x, hx⟩ : ∃ x, nth xs i = x := ⟨_, rfl⟩
      rw [hx] at hc
      have HX := Lib.hid hx
      clear hx
      by_cases hxy : y = x
      · subst hxy
        have hb : (y == y) = true := by simp
        go_wp2_with fail
        go_ret
        exact ⟨rfl, i, rfl, Or.inr ⟨i, rfl, hil, HX.out⟩⟩
      · have hb : (y == x) = false := by simp [hxy]
        go_wp2_with fail
        go_roundg (n - (i + 1))
        case measure => omega
        case rel => exact ⟨i + 1, by omega, by omega, by go_num, rfl, fun j hj => by
          by_cases e : j = i
          · subst e; rw [HX.out]; exact fun e => hxy e.symm
          · exact HA.out j (by omega)⟩
    · obtain rfl : i = n := by omega
      go_wp2_with fail
      go_ret
      exact ⟨rfl, -1, rfl, Or.inl ⟨rfl, HA.out⟩⟩

set_option maxRecDepth 100000 in
set_option maxHeartbeats 1000000 in
theorem contains_any (w : World) (a : Option Addr) (n cap : Nat) (xs : List Int) (y : Int) (hv : Ints w (.slice a n cap) xs) (hn : n ≤ 8388608) :
    Calls Try.prog 29 #[.slice a n cap, .int .i64 y] w fun e w' => w' = w ∧ e = .returned (.bool (decide (y ∈ xs))) := by
  have hl := hv.length_eq
  have h := index_any w a n cap xs y hv hn
  have hin : (∀ i, i < n → nth xs i ≠ y) → decide (y ∈ xs) = false := fun h => decide_eq_false fun hm => by
    obtain ⟨i, hi, e⟩ := List.getElem_of_mem hm
    exact h i (by omega) (by simp [nth, hi, e])
  have hout : ∀ i : Nat, i < n → nth xs i = y → decide (y ∈ xs) = true := fun i hi e => decide_eq_true (by
    have hx : nth xs i = xs[i] := by simp [nth, show i < xs.length by omega]
    rw [← e, hx]
    exact List.getElem_mem _)
  have HIN := Lib.hid hin
  have HOUT := Lib.hid hout
  clear hin hout hl
  go_enter Try.func29, Try.ntmps29
  go_wp2_with fail
  refine h.mono ?_
  rintro e w' ⟨rfl, r, rfl, ⟨rfl, h⟩ | ⟨i, rfl, hi, he⟩⟩
  · go_wp2_with fail
    go_ret
    exact ⟨rfl, by rw [HIN.out h]; rfl⟩
  · go_wp2_with fail
    go_ret
    exact ⟨rfl, by rw [HOUT.out i hi he]; simp⟩

theorem Ints.take {w : World} {a : Option Addr} {n cap : Nat} {xs : List Int} (h : Ints w (.slice a n cap) xs) {k : Nat} (hk : k ≤ n) : Ints w (.slice a k cap) (xs.take k) := by
  obtain ⟨a', cap', e, h1, h2, h3⟩ := h
  cases e
  have hl : (xs.take k).length = k := by rw [List.length_take]; omega
  refine ⟨_, _, by rw [hl], by omega, h2, fun i hi => ?_⟩
  rw [hl] at hi
  obtain ⟨b, off, e, hc⟩ := h3 i (by omega)
  refine ⟨b, off, e, ?_⟩
  rw [hc]
  simp [nth, hi]

theorem treeL_append (xs : List (Int × Int)) (x : Int × Int) : treeL (xs ++ [x]) = if x.2 = 0 then treeL xs ++ [x.1] else treeL xs := by
  unfold treeL
  rw [List.foldl_append]
  rfl

/-- an edge of the tree, and what stood ahead of it -/
theorem treeL_at : ∀ (n : Nat) {xs : List (Int × Int)} (_ : xs.length = n) {i : Nat} (_ : i < (treeL xs).length), ∃ j, j < n ∧ (nthS xs j).2 = 0 ∧ nth (treeL xs) i = (nthS xs j).1 ∧ treeL (xs.take j) = (treeL xs).take i
  | 0, xs, hl, i, hi => by
    have : xs = [] := List.length_eq_zero_iff.1 hl
    subst this
    simp [treeL] at hi
  | n + 1, xs, hl, i, hi => by
    obtain ⟨ys, x, rfl⟩ : ∃ ys x, xs = ys ++ [x] := ⟨xs.take n, xs[n], by rw [List.take_append_getElem, List.take_of_length_le (by omega)]⟩
    have hyl : ys.length = n := by simpa using hl
    rw [treeL_append] at hi ⊢
    have old : i < (treeL ys).length → ∃ j, j < n + 1 ∧ (nthS (ys ++ [x]) j).2 = 0 ∧ nth (treeL ys) i = (nthS (ys ++ [x]) j).1 ∧ treeL ((ys ++ [x]).take j) = (treeL ys).take i := fun h => by
      obtain ⟨j, h1, h2, h3, h4⟩ := treeL_at n hyl h
      refine ⟨j, by omega, ?_, ?_, ?_⟩
      · rw [nthS_append_left (by omega)]; exact h2
      · rw [nthS_append_left (by omega)]; exact h3
      · rw [List.take_append_of_le_length (by omega)]; exact h4
    split at hi
    · rename_i hx
      rw [if_pos hx]
      by_cases hio : i < (treeL ys).length
      · obtain ⟨j, h1, h2, h3, h4⟩ := old hio
        refine ⟨j, h1, h2, ?_, ?_⟩
        · rw [← h3]; unfold nth; rw [List.getD_eq_getElem?_getD, List.getD_eq_getElem?_getD, List.getElem?_append_left hio]
        · exact h4.trans (List.take_append_of_le_length (by omega)).symm
      · have e : i = (treeL ys).length := by simp at hi; omega
        subst e
        have hn : nthS (ys ++ [x]) n = x := by
          rw [nthS_get (by simp; omega)]; simp [← hyl]
        refine ⟨n, by omega, by rw [hn]; exact hx, ?_, ?_⟩
        · rw [hn]; simp [nth]
        · rw [← hyl, List.take_left', List.take_left']
          · rfl
          · rfl
    · rename_i hx
      rw [if_neg hx]
      exact old hi

/-- what was met, as a list -/
def metL (s : List Nat) (V root j : Nat) : List Int := ((vtx s root : Nat) : Int) :: (treeL (stepL s V root j)).map fun d => ((vtx s (d.toNat ^^^ 1) : Nat) : Int)
theorem metL_iff {s : List Nat} (hs : IsPerm s) (he : s.length % 2 = 0) {V root : Nat} (hr : root < s.length) (hV : (sizesL s).length ≤ V) (v : Nat) : ∀ j, getB (wst s V root j).mt v = true ↔ (v : Int) ∈ metL s V root j
  | 0 => by
    show getB ((List.replicate V false).set (vtx s root) true) v = true ↔ _
    rw [getB_set (by rw [List.length_replicate]; have := vtx_lt hs hr; omega)]
    have hf : getB (List.replicate V false) v = false := by unfold getB; by_cases h : v < V <;> simp [h]
    have hm : metL s V root 0 = [((vtx s root : Nat) : Int)] := rfl
    rw [hm, hf]
    split
    · rename_i e; simp [e]
    · rename_i e; simp; omega
  | j + 1 => by
    have ih := metL_iff hs he hr hV v j
    have h := winv hs he hr hV j
    have hd := h.lt j (Nat.le_refl _)
    have e1 : (wst s V root (j + 1)).mt = wmt s (wst s V root j) := rfl
    have hml : (wst s V root j).mt.length = V := h.mtl
    have hxl := vtx_lt hs (xor_one_lt he hd)
    rw [e1]
    unfold wmt
    have hst : metL s V root (j + 1) = if wk s V root j = 0 then metL s V root j ++ [((vtx s (wd s V root j ^^^ 1) : Nat) : Int)] else metL s V root j := by
      unfold metL
      rw [stepL_succ, treeL_append]
      by_cases hk : wk s V root j = 0
      · rw [if_pos hk, if_pos (by simp [hk])]
        simp
      · rw [if_neg hk, if_neg (by simp; omega)]
    rw [hst]
    by_cases hk : wk s V root j = 0
    · have hk' : wkind s (wst s V root j) = 0 := hk
      have e2 : (wst s V root j).d = wd s V root j := rfl
      rw [if_pos hk, if_pos hk', e2, getB_set (by rw [hml]; omega), List.mem_append, ← ih]
      split
      · rename_i e; simp [e]
      · rename_i e
        constructor
        · exact Or.inl
        · rintro (h | h)
          · exact h
          · simp at h; omega
    · have hk' : ¬ wkind s (wst s V root j) = 0 := hk
      rw [if_neg hk, if_neg hk', ih]

/-- each vertex of the tree is met once, from one that was met -/
theorem met_order {s : List Nat} (hs : IsPerm s) (he : s.length % 2 = 0) {V root : Nat} (hr : root < s.length) (hV : (sizesL s).length ≤ V) {n i : Nat} (hi : i < (treeL (stepL s V root n)).length) :
    ∃ d : Nat, nth (treeL (stepL s V root n)) i = (d : Int) ∧ d < s.length ∧ nth (metL s V root n) (i + 1) = ((vtx s (d ^^^ 1) : Nat) : Int) ∧ ((vtx s d : Nat) : Int) ∈ (metL s V root n).take (i + 1) ∧ ¬ ((vtx s (d ^^^ 1) : Nat) : Int) ∈ (metL s V root n).take (i + 1) := by
  obtain ⟨j, hj, h2, h3, h4⟩ := treeL_at n (stepL_length s V root n) hi
  rw [nthS_stepL hj] at h2 h3
  simp only at h2 h3
  have hst : (stepL s V root n).take j = stepL s V root j := by
    unfold stepL
    rw [← List.map_take, List.take_range, Nat.min_eq_left (by omega)]
  rw [hst] at h4
  have h := winv hs he hr hV j
  have hd := h.lt j (Nat.le_refl _)
  have htake : (metL s V root n).take (i + 1) = metL s V root j := by
    unfold metL
    rw [List.take_succ_cons, ← List.map_take, h4]
  refine ⟨wd s V root j, h3, hd, ?_, ?_, ?_⟩
  · unfold metL
    show nth (_ :: _) (i + 1) = _
    unfold nth at h3 ⊢
    rw [List.getD_eq_getElem?_getD, List.getElem?_cons_succ, List.getElem?_map]
    rw [List.getD_eq_getElem?_getD, List.getElem?_eq_getElem hi] at h3
    rw [List.getElem?_eq_getElem hi]
    have h3' : (treeL (stepL s V root n))[i] = ((wd s V root j : Nat) : Int) := h3
    show ((vtx s ((treeL (stepL s V root n))[i].toNat ^^^ 1) : Nat) : Int) = _
    rw [h3']
    rfl
  · rw [htake, ← metL_iff hs he hr hV, h.met _ hd]
    exact ⟨hr, hd, j, by rw [← h.path_it j (Nat.le_refl _)]⟩
  · rw [htake, ← metL_iff hs he hr hV]
    have hk : wk s V root j = 0 := by omega
    unfold wk wkind at hk
    split at hk
    · split at hk
      · cases hk
      · rename_i h0; exact h0
    · split at hk <;> cases hk

theorem treeL_walk (s : List Nat) (V root : Nat) : ∀ n, (treeL (stepL s V root n)).length = wcnt s V root 0 n
  | 0 => rfl
  | n + 1 => by
    rw [stepL_succ, treeL_append, wcnt_succ, ← treeL_walk s V root n]
    by_cases hk : wk s V root n = 0
    · rw [if_pos hk, if_pos (by simp [hk])]; simp
    · rw [if_neg hk, if_neg (by simp; omega)]; simp

theorem ordL_walk (s : List Nat) (V root n : Nat) (hn : 0 < n) : ordL s (stepL s V root n) = metL s V root n := by
  unfold ordL metL
  rw [stepL_length, if_neg (by omega), nthS_stepL hn]
  rfl

end Go.Proofs.Ytnbecpeiodcohaa
