/- append(s, make([]int, k)...) onto a row of one's own. Conditions: at most 8388608 elements together. append(s, make([]byte, k)...) onto a row of bytes of one's own. Conditions: at most 100000 elements together. -/
import Derived.Test.YtklkgicjfnbndaaGreatZScriptParts36
import Derived.Lib.AppendZerosOnto
import Derived.ArgAppend
import Derived.Test.YtklkgicjfnbndaaGreatZScriptParts35
namespace Go.Proofs.YtklkgicjfnbndaaGreat
open Go.RowKit
set_option linter.unusedVariables false

theorem run_append_room_zeros {P : Program} (w : World) (t tn ty e : TypeId) (i : TypeInfo) (z : Value) (kn : IntKind) (ht : P.underlying t = some (.slice e)) (htn : P.underlying tn = some (.int kn)) (hi : P.info? e = some i) (hz : i.zero = some z)
    (b off sLen sCap k : Nat) (hk : 0 < k) (hs : 0 < i.size) (hroom : sLen + k ≤ sCap) (hkm : k ≤ 8388608) (hby : k * i.bytes ≤ 281474976710656)
    (hc : ∀ j, j < (Builtin.zeroCells z.cells k).toList.length → (w.cell? ⟨b, off + sLen * i.size + j, none⟩).isSome = true) (hf : ∀ j, j < (Builtin.zeroCells z.cells k).toList.length → w.frozen? ⟨b, off + sLen * i.size + j, none⟩ = false)
    (h1 : ∀ u ∈ (Builtin.zeroCells z.cells k).toList, u.oneCell' = true) :
    (Builtin.append_ #[t, tn] ty #[.slice (some ⟨b, off, none⟩) sLen sCap, .int .i64 k]).run P w = .ok (.slice (some ⟨b, off, none⟩) (sLen + k) sCap) (w.setCells b (off + sLen * i.size) (Builtin.zeroCells z.cells k).toList) := by
  have hst := run_storeCells_cells (P := P) b (off + sLen * i.size) (Builtin.zeroCells z.cells k).toList 0 w (by simpa using hc) (by simpa using hf) h1
  simp only [Nat.add_zero] at hst
  have hk0 : k ≠ 0 := by omega
  have hw : IntKind.i64.wrap (k : Int) = k := by rw [IntKind.wrap_i64]; omega
  have hneg : ¬ ((k : Int) < 0) := by omega
  have hns : ¬ (k * i.size = 0) := Nat.mul_ne_zero hk0 (by omega)
  have h48i : ¬ (281474976710656 < (k : Int) * (i.bytes : Int)) := by
    rw [← Int.natCast_mul]
    omega
  simp [Builtin.append_, run_underlying ht, run_underlying htn, sizeOf, typeInfo, zeroValue, hi, hz, asInt, asIntOf, hw, hneg, hns, h48i, hroom, Addr.add_lit, hst]

theorem setCells_block {E : TypeId} {g : Nat} : ∀ (vs : List Value) (o : Nat) (w : World) (cur : Array Value), w.heap[g]? = some (.cells cur E (0, 0)) → o + vs.length ≤ cur.size →
    ∃ cur', (w.setCells g o vs).heap[g]? = some (.cells cur' E (0, 0)) ∧ cur'.size = cur.size ∧ ∀ j, cur'[j]? = if o ≤ j ∧ j < o + vs.length then vs[j - o]? else cur[j]?
  | [], o, w, cur, h, hl => ⟨cur, h, rfl, fun j => by rw [if_neg (fun e => by simp at e; omega)]⟩
  | v :: vs, o, w, cur, h, hl => by
    simp only [List.length_cons] at hl
    have h1 : (w.setCell ⟨g, o, none⟩ v).heap[g]? = some (.cells (cur.setIfInBounds o v) E (0, 0)) := heap_setCell_same _ _ _ _ _ _ h
    obtain ⟨cur', a1, a2, a3⟩ := setCells_block vs (o + 1) (w.setCell ⟨g, o, none⟩ v) _ h1 (by simp; omega)
    refine ⟨cur', a1, by rw [a2]; simp, fun j => ?_⟩
    rw [a3]
    simp only [List.length_cons]
    by_cases e1 : o + 1 ≤ j ∧ j < o + 1 + vs.length
    · rw [if_pos e1, if_pos (by omega), show j - o = (j - (o + 1)) + 1 by omega, List.getElem?_cons_succ]
    · rw [if_neg e1, Array.getElem?_setIfInBounds]
      by_cases e2 : o = j
      · subst e2
        rw [if_pos rfl, if_pos (by omega), if_pos (by omega)]
        simp
      · rw [if_neg e2, if_neg (by omega)]

end Go.Proofs.YtklkgicjfnbndaaGreat

namespace Go.Proofs.YtklkgicjfnbndaaGreat
open Go.RowKit
set_option linter.unusedVariables false

theorem zeroCells_u8 (k : Nat) : (Builtin.zeroCells #[.int .u8 0] k).toList = List.replicate k (Value.int .u8 0) := by
  refine List.ext_getElem (by simp [Builtin.zeroCells]) fun j h1 h2 => ?_
  simp [Builtin.zeroCells, Nat.mod_one]
theorem run_append_zb_none (w : World) (ty : TypeId) (v : Value) (n cap : Nat) (a : Option Addr) (hc : n ≤ cap) :
    (Builtin.append_ #[22, 3] ty #[.slice a n cap, .int .i64 0]).run Tryz.prog w = .ok (.slice a n cap) w := by
  obtain ⟨i0, hi, hz0, hz1, hz2⟩ := info_parts u8_info
  have hw : IntKind.i64.wrap 0 = 0 := by decide
  cases a with
  | none => simp [Builtin.append_, run_underlying Tryz.underlying22, run_underlying Tryz.underlying3, sizeOf, typeInfo, zeroValue, hi, hz0, asInt, asIntOf, hw, hc]
  | some ad => simp [Builtin.append_, run_underlying Tryz.underlying22, run_underlying Tryz.underlying3, sizeOf, typeInfo, zeroValue, hi, hz0, asInt, asIntOf, hw, hc, Go.storeCells]

theorem run_append_zb {R : Reg} {B : Nat} {w : World} {v : Value} {n : Nat} {xs : List Value} (hown : OwnV R B 5 1 w v n xs) (ty : TypeId) (k : Nat) (hn : n + k ≤ 100000) (hB : B ≤ w.heap.size) (hR : ∀ k, w.heap.size ≤ k → R k = none) :
    ∃ v' w', (Builtin.append_ #[22, 3] ty #[v, .int .i64 (k : Int)]).run Tryz.prog w = .ok v' w' ∧ OwnV R B 5 1 w' v' (n + k) (xs ++ List.replicate k (.int .u8 0)) ∧ w.grownBy w' v.ownBlock := by
  obtain ⟨i0, hi, hz0, hz1, hz2⟩ := info_parts u8_info
  have hzl : (Builtin.zeroCells (Value.int .u8 0).cells k).toList = List.replicate k (Value.int .u8 0) := zeroCells_u8 k
  have hone : ∀ u ∈ (Builtin.zeroCells (Value.int .u8 0).cells k).toList, u.oneCell' = true := fun u hu => by
    rw [hzl] at hu
    rw [List.eq_of_mem_replicate hu]
    rfl
  have hzc : ∀ m, (Builtin.zeroCells (Value.int .u8 0).cells m).size = m := fun m => by rw [← Array.length_toList, show (Value.int .u8 0).cells = #[.int .u8 0] from rfl, zeroCells_u8]; simp
  obtain ⟨⟨hlen, h2⟩, h3⟩ := hown
  rw [Nat.mul_one] at hlen
  by_cases hk0 : k = 0
  · subst hk0
    have hcap : ∃ a cap, v = .slice a n cap ∧ n ≤ cap := by
      rcases h2 with ⟨h2, hx⟩ | ⟨g', cap', cur, hv, hg, hh, hnc, hm, hsz, ht⟩
      · subst hx
        simp at hlen
        subst hlen
        exact ⟨none, 0, h2, Nat.le_refl _⟩
      · exact ⟨_, _, hv, hnc⟩
    obtain ⟨a, cap, rfl, hc⟩ := hcap
    refine ⟨_, w, run_append_zb_none w ty .nilFunc n cap a hc, ⟨⟨by simp [hlen], ?_⟩, h3⟩, World.grownBy.refl w _⟩
    simpa using h2
  · have grow : ∀ (a : Option Addr) (cap : Nat), v = .slice a n cap → cap < n + k → (Builtin.firstCells i0.size n (.slice a n cap)).run Tryz.prog w.drew = .ok xs.toArray w.drew →
        ∃ v' w', (Builtin.append_ #[22, 3] ty #[v, .int .i64 (k : Int)]).run Tryz.prog w = .ok v' w' ∧ OwnV R B 5 1 w' v' (n + k) (xs ++ List.replicate k (.int .u8 0)) ∧ w.grownBy w' v.ownBlock := by
      rintro a cap rfl hg hfc
      have hrun := Go.Lib.run_append_grow_zeros (P := Tryz.prog) w 22 3 ty 5 i0 (.int .u8 0) .i64 .i64 Tryz.underlying22 Tryz.underlying3 hi hz0 a n cap xs hfc k (by omega) (by omega) hg (by omega) (by rw [hz2]; omega)
        (by rw [hz2]; exact growslice_fits (by omega) (by omega))
      have hge := grownCap_ge w (n + k) cap 5
      have hcm : grownCap w (n + k) cap 5 ≤ maxLen := grownCap_le_maxLen w (n + k) cap 5 (by unfold maxLen; omega)
      have hblk := heap_alloc_new w.drew (.cells (xs.toArray ++ Builtin.zeroCells (Value.int .u8 0).cells k ++ Builtin.zeroCells (Value.int .u8 0).cells (grownCap w (n + k) cap 5 - (n + k))) 5)
      refine ⟨_, _, hrun, ⟨⟨by simp [hlen], Or.inr ⟨w.heap.size, _, _, rfl, hB, hblk, hge, hcm, ?_, ?_⟩⟩, fun j hj => hR j (Nat.le_of_eq (Option.some.inj (show some w.heap.size = some j from hj)))⟩, ?_⟩
      · simp only [Array.size_append, hzc, List.size_toArray]
        omega
      · simp only [Array.toList_append, hzl]
        exact List.take_left' (by simp; omega)
      · exact ⟨rfl, rfl, rfl, by simp, fun j hj _ => heap_alloc_old w.drew _ hj⟩
    rcases h2 with ⟨h2, hx⟩ | ⟨g', cap', cur, hv, hg, hh, hnc, hm, hsz, ht⟩
    · subst hx
      simp at hlen
      subst hlen
      exact grow none 0 h2 (by omega) (run_firstCells_none _ _ _ _ _)
    · have hcells : ∀ j, (w.cell? ⟨g', j, none⟩) = cur[j]? := fun j => cells_at hh j
      have hsz1 : cur.size = cap' := by omega
      by_cases hroom : n + k ≤ cap'
      · subst hv
        have hrun := run_append_room_zeros (P := Tryz.prog) w 22 3 ty 5 i0 (.int .u8 0) .i64 Tryz.underlying22 Tryz.underlying3 hi hz0 g' 0 n cap' k (by omega) (by omega) hroom (by omega) (by rw [hz2]; omega)
          (fun j hj => by
            rw [hzl] at hj
            simp at hj
            rw [hcells, hz1, Array.getElem?_eq_getElem (by omega)]; rfl)
          (fun j hj => by simp [World.frozen?, hh]) hone
        rw [hz1, hzl, Nat.mul_one, Nat.zero_add] at hrun
        obtain ⟨cur', b1, b2, b3⟩ := setCells_block (List.replicate k (Value.int .u8 0)) n w cur hh (by simp; omega)
        refine ⟨_, _, hrun, ⟨⟨by simp [hlen], Or.inr ⟨g', cap', cur', rfl, hg, b1, by omega, hm, by omega, ?_⟩⟩, h3⟩, ?_⟩
        · refine List.ext_getElem? fun j => ?_
          rw [List.getElem?_take, Nat.mul_one]
          by_cases hj : j < n + k
          · rw [if_pos hj, Array.getElem?_toList, b3]
            by_cases e : n ≤ j ∧ j < n + (List.replicate k (Value.int .u8 0)).length
            · rw [if_pos e, List.getElem?_append_right (by omega), hlen]
            · rw [if_neg e, List.getElem?_append_left (by simp at e; omega), ← ht, List.getElem?_take, Nat.mul_one, if_pos (by simp at e; omega), Array.getElem?_toList]
          · rw [if_neg hj, List.getElem?_eq_none (by simp; omega)]
        · have hgen : ∀ (vs : List Value) (o : Nat) (w : World), w.grownBy (w.setCells g' o vs) (some g') := fun vs => by
            induction vs with
            | nil => exact fun o w => World.grownBy.refl w _
            | cons v vs ih =>
              intro o w
              have h1 : w.grownBy (w.setCell ⟨g', o, none⟩ v) (some g') := ⟨rfl, rfl, rfl, by simp [World.setCell], fun k hk hne => Below.heap_setCell _ _ _ _ (fun e => hne (by rw [e]))⟩
              exact h1.trans (ih (o + 1) _)
          exact hgen _ _ _
      · refine grow _ _ hv (by omega) ?_
        refine run_firstCells_some (P := Tryz.prog) w.drew i0.size n ⟨g', 0, none⟩ n cap' xs (by rw [hz1]; omega) (fun j u hj => ?_)
        have hjl : j < xs.length := (List.getElem?_eq_some_iff.1 hj).1
        have h1 : w.drew.cell? ((⟨g', 0, none⟩ : Addr).add j) = cur[j]? := by rw [Addr.add_lit, Nat.zero_add]; exact hcells j
        rw [h1, ← hj, ← ht, List.getElem?_take, if_pos (by omega), Array.getElem?_toList]
section
variable {a : Act} {ops : Array Oper} {Q : Exit → Act → World → Prop} {o : Oper} {rest : List Oper}
theorem wpList_app_zb {w : World} (hgd : o.guard = none) (s x : Operand)
    (ho : o.op = .call { callee := .builtin .append, args := #[s, x], argTypes := #[22, 3] })
    {R : Reg} {B : Nat} {v : Value} {n : Nat} {xs : List Value} (hown : OwnV R B 5 1 w v n xs) (hs : a.eval s = v) (k : Nat) (hx : a.eval x = .int .i64 (k : Int))
    (hn : n + k ≤ 100000) (hB : B ≤ w.heap.size) (hR : ∀ k, w.heap.size ≤ k → R k = none)
    (h : ∀ v' w', OwnV R B 5 1 w' v' (n + k) (xs ++ List.replicate k (.int .u8 0)) → w.grownBy w' v.ownBlock → wpList Tryz.prog ops Q rest (a.put o.dst v') w') :
    wpList Tryz.prog ops Q (o :: rest) a w := by
  obtain ⟨v', w', hr, h2, h3⟩ := run_append_zb hown o.type k hn hB hR
  refine wpList_plain hgd fun K hK => ?_
  unfold Oper.wp execOp
  simp only [ho, resolve, invoke, builtin, Sem.run_bind, Sem.run_pure, Result.andThen_ok, List.map_toArray, List.map_cons, List.map_nil, hs, hx, hr]
  exact hK _ _ (h v' w' h2 h3)
end
end Go.Proofs.YtklkgicjfnbndaaGreat
