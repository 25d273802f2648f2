/- A row of one's own that loses its first element and is appended to: a queue. Conditions: at most 8388608 elements. -/
import Derived.Test.YtlbhmonpfchocaaZCanonIso27
import Derived.ArgAppend
namespace Go.Proofs.Ytlbhmonpfchocaa
open Go.RowKit
set_option linter.unusedVariables false

/-- v reads as xs, and lies in block g, the call's own (from B on); g is not bm -/
def QI (R : Reg) (B bm : Nat) (w : World) (v : Value) (xs : List Int) : Prop :=
  ∃ g off cap cur, v = .slice (some ⟨g, off, none⟩) xs.length cap ∧ B ≤ g ∧ R g = none ∧ g ≠ bm ∧ xs.length ≤ cap ∧ cap ≤ maxLen ∧ w.heap[g]? = some (.cells cur 3 (0, 0)) ∧ off + cap ≤ cur.size ∧ ∀ i, i < xs.length → cur[off + i]? = some (.int .i64 (nth xs i))
section
variable {R R1 : Reg} {B bm : Nat} {w w1 : World} {v : Value} {xs : List Int}
theorem QI.ev (h : QI R B bm w v xs) (he : Ev R w R1 w1) : QI R1 B bm w1 v xs := by
  obtain ⟨g, off, cap, cur, h1, h2, h3, h4, h5, h6, h7, h8, h9⟩ := h
  exact ⟨g, off, cap, cur, h1, h2, he.free g (lt_of_block h7) h3, h4, h5, h6, (he.block g (lt_of_block h7) h3).trans h7, h8, h9⟩
theorem QI.drewN (h : QI R B bm w v xs) (n : Nat) : QI R B bm (w.drewN n) v xs := h
theorem QI.kept (h : QI R B bm w v xs) (hg : w.grownBy w1 (some bm)) : QI R B bm w1 v xs := by
  obtain ⟨g, off, cap, cur, h1, h2, h3, h4, h5, h6, h7, h8, h9⟩ := h
  exact ⟨g, off, cap, cur, h1, h2, h3, h4, h5, h6, (hg.block g (lt_of_block h7) (fun e => h4 (by injection e))).trans h7, h8, h9⟩
theorem QI.alloc (h : QI R B bm w v xs) (o : Obj) : QI R B bm (w.alloc o) v xs := h.kept (World.grownBy_alloc w o _)
theorem QI.of_own (h : OwnI R B 3 w v xs) (h0 : 0 < xs.length) (hb : v.ownBlock ≠ some bm) : QI R B bm w v xs := by
  obtain ⟨⟨h1, h2⟩, h3⟩ := h
  rcases h2 with ⟨h2, hn⟩ | ⟨g, cap, cur, hv, hg, hh, hn, hm, hs, ht⟩
  · omega
  · subst hv
    refine ⟨g, 0, cap, cur, rfl, hg, h3 g rfl, fun e => hb (by rw [e]; rfl), hn, hm, hh, by omega, fun i hi => ?_⟩
    have hx : (xs.map (Value.int .i64))[i]? = some (.int .i64 (nth xs i)) := by simp [nth, hi]
    rw [← ht, List.getElem?_take] at hx
    split at hx
    · simpa using hx
    · cases hx
/-- the first element's cell -/
theorem QI.head {x : Int} (h : QI R B bm w v (x :: xs)) : ∃ g off cap, v = .slice (some ⟨g, off, none⟩) (xs.length + 1) cap ∧ xs.length + 1 ≤ cap ∧ w.cell? ⟨g, off, none⟩ = some (.int .i64 x) ∧ QI R B bm w (.slice (some ⟨g, off + 1, none⟩) xs.length (cap - 1)) xs ∧ (cap = 1 → QI R B bm w (.slice (some ⟨g, off, none⟩) xs.length (cap - 1)) xs) := by
  obtain ⟨g, off, cap, cur, h1, h2, h3, h4, h5, h6, h7, h8, h9⟩ := h
  simp only [List.length_cons] at h1 h5
  have hc := h9 0 (by simp)
  simp only [Nat.add_zero] at hc
  refine ⟨g, off, cap, h1, h5, ?_, ⟨g, off + 1, cap - 1, cur, rfl, h2, h3, h4, by omega, by omega, h7, by omega, fun i hi => ?_⟩, fun hc1 => ⟨g, off, cap - 1, cur, rfl, h2, h3, h4, by omega, by omega, h7, by omega, fun i hi => by omega⟩⟩
  · rw [cells_at h7, hc]
    simp [nth]
  · have := h9 (i + 1) (by simp; omega)
    rw [show off + 1 + i = off + (i + 1) by omega, this]
    simp [nth]
end

/-- append(q, y) -/
theorem wpList_app_q {w : World} {ops : Array Oper} {rest : List Oper} {o : Oper} {a : Act} {Q : Exit → Act → World → Prop} (hgd : o.guard = none) (s x : Operand)
    (ho : o.op = .call { callee := .builtin .append, args := #[s, x], argTypes := #[32, 32] })
    {R : Reg} {B bm : Nat} {v : Value} {xs : List Int} (hown : QI R B bm w v xs) (hs : a.eval s = v) (ad : Addr) (c : Nat) (y : Int) (hx : a.eval x = .slice (some ad) 1 c)
    (hc : w.cell? (ad.add 0) = some (.int .i64 y)) (hn : xs.length + 1 ≤ 8388608) (hB : B ≤ w.heap.size) (hR : ∀ k, w.heap.size ≤ k → R k = none) (hbm : bm < w.heap.size)
    (h : ∀ v' w' g, QI R B bm w' v' (xs ++ [y]) → w.grownBy w' (some g) → B ≤ g → g ≠ bm → R g = none → wpList Try.prog ops Q rest (a.put o.dst v') w') :
    wpList Try.prog ops Q (o :: rest) a w := by
  obtain ⟨i0, hi, hz0, hz1, hz2⟩ := info_parts int_info
  obtain ⟨g, off, cap, cur, rfl, h2, h3, h4, h5, h6, h7, h8, h9⟩ := hown
  have hmx : (8388608 : Nat) ≤ maxLen := by unfold maxLen; omega
  have hcells : ∀ j, (w.cell? ⟨g, j, none⟩) = cur[j]? := fun j => cells_at h7 j
  refine wpList_append_arg w hgd s x 32 ho 3 i0 (.int .i64 0) 1 8 Try.underlying32 hi hz0 hz1 hz2 rfl (by decide) g off xs.length cap (xs.map (Value.int .i64)) hs (by simp) (fun j u hj => ?_) ad 1 c [.int .i64 y] hx rfl (fun j u hj => ?_) (fun u hu => by rw [List.mem_singleton.1 hu]; rfl)
    (fun hr j hj => ?_) (by omega) (by omega) (fun hr => ?_) (fun hr v' w' hown hg => ?_)
  · have hjl : j < xs.length := by have := (List.getElem?_eq_some_iff.1 hj).1; simpa using this
    rw [hcells, h9 j hjl, ← hj]
    simp [nth, hjl]
  · match j, hj with
    | 0, hj => simp at hj; rw [hc, hj]
  · simp at hj
    subst hj
    rw [hcells]
    refine ⟨?_, by simp [World.frozen?, h7]⟩
    rw [Array.getElem?_eq_getElem (by omega)]
    rfl
  · have hsz : off + xs.length < cur.size := by omega
    have hw : w.setCells g (off + xs.length * 1) [.int .i64 y] = w.setCell ⟨g, off + xs.length, none⟩ (.int .i64 y) := by
      rw [Nat.mul_one]; rfl
    rw [hw]
    have hblk : (w.setCell ⟨g, off + xs.length, none⟩ (.int .i64 y)).heap[g]? = some (.cells (cur.setIfInBounds (off + xs.length) (.int .i64 y)) 3 (0, 0)) := by
      exact heap_setCell_same _ _ _ _ _ _ h7
    refine h _ _ g ⟨g, off, cap, _, by simp, h2, h3, h4, by simp; omega, h6, hblk, by simp; omega, fun i hi => ?_⟩ ?_ h2 h4 h3
    · rw [Array.getElem?_setIfInBounds]
      simp at hi
      by_cases e : i = xs.length
      · subst e
        rw [if_pos rfl, if_pos hsz]
        simp [nth]
      · rw [if_neg (by omega), h9 i (by omega)]
        have : i < xs.length := by omega
        simp [nth, List.getElem?_append_left this]
    · exact ⟨rfl, rfl, rfl, by simp [World.setCell], fun k hk hne => Below.heap_setCell _ _ _ _ (fun e => hne (by rw [e]))⟩
  · have ho1 : OwnI R w.heap.size 3 w' v' (xs ++ [y]) := ⟨by simpa using hown, fun k hk => hR k (hown.lt k hk).1⟩
    have hown' := ho1.mono hB
    refine h v' w' g (QI.of_own hown' (by simp) (fun e => ?_)) (hg.but _) h2 h4 h3
    have := (hown.lt _ e).1
    omega
end Go.Proofs.Ytlbhmonpfchocaa
