/- parquetryref10.Cut, Shrink. Conditions: the map's list lies in memory, the edge is there. script.by, kind by kind. Conditions: none. By other names a map has as many double edges. Conditions: none. -/
import Derived.Test.YtklkgicjfnbndaaGreatZScriptSizes29
import Derived.Deep.RegionHeld3
import Derived.Deep.RegionLaw
import Derived.Test.YtklkgicjfnbndaaGreatZScriptSizes14
import Derived.Test.YtklkgicjfnbndaaGreatZScriptSizes23
import Derived.Test.YtklkgicjfnbndaaGreatZScriptSizes25
namespace Go.Proofs.YtklkgicjfnbndaaGreat
open Go.RowKit
set_option linter.unusedVariables false

/-- append of elements to one's own row, in a region that draws -/
theorem step_app_row {ops : Array Oper} {o : Oper} {a : Act} {w : World} {K : Act → World → Prop} {Q : Exit → Act → World → Prop} {E0 : Prop} (t E sz bytes : Nat) (z : Value) (ht : Tryz.prog.underlying t = some (.slice E)) (hin : (Tryz.prog.info? E).map (fun i => (i.zero, i.size, i.bytes)) = some (some z, sz, bytes)) (hzs : z.cells.size = sz) (hsz : 0 < sz) (hby : bytes ≤ 4096)
    (hgd : o.guard = none) (s x : Operand)
    (ho : o.op = .call { callee := .builtin .append, args := #[s, x], argTypes := #[t, t] })
    {R : Reg} {B : Nat} {v : Value} {n : Nat} {xs : List Value} (hown : OwnV R B E sz w v n xs) (hs : a.eval s = v) (ad : Addr) (m c : Nat) (ys : List Value) (hm : ys.length = m * sz) (hx : a.eval x = .slice (some ad) m c)
    (hc : ∀ j u, ys[j]? = some u → w.cell? (ad.add j) = some u) (h1 : ∀ u ∈ ys, u.oneCell' = true) (hn : n + m ≤ 8388608) (hB : B ≤ w.heap.size) (hR : ∀ k, w.heap.size ≤ k → R k = none)
    (h : ∀ v' w', OwnV R B E sz w' v' (n + m) (xs ++ ys) → w.grownBy w' v.ownBlock → (∀ k, v'.ownBlock = some k → v.ownBlock = some k ∨ w.heap.size ≤ k) → K (a.put o.dst v') w') :
    if Region.wanted o (yielded ops a.tmps) = true then Oper.wp Tryz.prog o a w K Q else E0 := by
  have hw : Region.wanted o (yielded ops a.tmps) = true := by simp [Region.wanted, hgd]
  rw [if_pos hw]
  obtain ⟨i0, hi, hz0, hz1, hz2⟩ := info_parts hin
  obtain ⟨v', w', hr, h2, h3, h4⟩ := run_append_where (P := Tryz.prog) w B t o.type E i0 z sz bytes ht hi hz0 hz1 hz2 hzs hsz v n _ hown.1 ad m c ys hm hc h1 (by unfold maxLen; omega)
    (Nat.le_trans (Nat.mul_le_mul hn hby) (by decide)) hB
  unfold Oper.wp execOp
  simp only [ho, resolve, invoke, builtin, Sem.run_bind, Sem.run_pure, Result.andThen_ok, List.map_toArray, List.map_cons, List.map_nil, hs, hx, hr]
  refine h v' w' ⟨h2, ?_⟩ h3 h4
  intro k hk
  rcases h4 k hk with e | e
  · exact hown.2 k e
  · exact hR k e

/-- lists of lists of the call's own -/
def RowsAt (R : Reg) (B : Nat) (w : World) (v : Value) (xss : List (List Nat)) : Prop :=
  ∃ a c vs, v = .slice a xss.length c ∧ OwnV R B 25 1 w (.slice a xss.length c) xss.length vs ∧ RowsLL R w (fun k => (Value.slice a xss.length c).ownBlock = some k) vs xss
theorem RowsAt.ev {R R' : Reg} {B : Nat} {w w' : World} {v : Value} {xss : List (List Nat)} (h : RowsAt R B w v xss) (he : Ev R w R' w') : RowsAt R' B w' v xss := by
  obtain ⟨a, c, vs, h1, h2, h3⟩ := h
  exact ⟨a, c, vs, h1, h2.ev he, h3.ev he⟩

/-- whose darts they are -/
def RowsIn (n e : Nat) (xss : List (List Nat)) : Prop := ∀ v, v ∈ xss → (∀ x, x ∈ v → x < n ∧ ¬ x / 2 = e) ∧ v.length ≤ n + 1
theorem RowsIn.app {n e : Nat} {xss yss : List (List Nat)} (h : RowsIn n e xss) (k : RowsIn n e yss) : RowsIn n e (xss ++ yss) := fun v hv => (List.mem_append.1 hv).elim (h v) (k v)
end Go.Proofs.YtklkgicjfnbndaaGreat

namespace Go.Proofs.YtklkgicjfnbndaaGreat
open Go.RowKit
set_option linter.unusedVariables false

/-- a function against nil -/
theorem eqlIn_func (d : Nat) (F : Fn) (a b : Array Value) (w : World) : (Op.equalIn (d + 1) 52 (.func F a b) .nilFunc).run Tryz.prog w = .ok false w := by
  simp [Op.equalIn, run_underlying Tryz.underlying52]
theorem eqlIn_nilf (d : Nat) (w : World) : (Op.equalIn (d + 1) 52 .nilFunc .nilFunc).run Tryz.prog w = .ok true w := by
  simp [Op.equalIn, run_underlying Tryz.underlying52]
theorem eql_func (F : Fn) (a b : Array Value) (w : World) : (binOp .eql 52 (.func F a b) .nilFunc).run Tryz.prog w = .ok (.bool false) w := by
  simp only [binOp]
  simp [Op.equal, Op.maxDepth, eqlIn_func 9999]
theorem eql_nilf (w : World) : (binOp .eql 52 .nilFunc .nilFunc).run Tryz.prog w = .ok (.bool true) w := by
  simp only [binOp]
  simp [Op.equal, Op.maxDepth, eqlIn_nilf 9999]
set_option maxRecDepth 100000 in
theorem by_0 (w : World) : Calls Tryz.prog 70 #[.int .i64 0] w fun e w' => e = .returned (.func (.func 132) #[] #[.pointer (some ⟨w.heap.size, 0, none⟩)]) ∧ w' = w.alloc (.cells #[.func (.func 43) #[] #[]] 32) := by
  have hmf := @makeFunc_run
  go_enter Tryz.func70, Tryz.ntmps70
  go_wp2_with go_in
  go_ret
  exact ⟨rfl, rfl⟩
set_option maxRecDepth 100000 in
theorem by_2 (w : World) : Calls Tryz.prog 70 #[.int .i64 2] w fun e w' => e = .returned (.func (.func 132) #[] #[.pointer (some ⟨w.heap.size, 0, none⟩)]) ∧ w' = w.alloc (.cells #[.func (.func 63) #[] #[]] 32) := by
  have hmf := @makeFunc_run
  go_enter Tryz.func70, Tryz.ntmps70
  go_wp2_with go_in
  go_ret
  exact ⟨rfl, rfl⟩
set_option maxRecDepth 100000 in
theorem by_3 (w : World) : Calls Tryz.prog 70 #[.int .i64 3] w fun e w' => e = .returned (.func (.func 132) #[] #[.pointer (some ⟨w.heap.size, 0, none⟩)]) ∧ w' = w.alloc (.cells #[.func (.func 12) #[] #[]] 32) := by
  have hmf := @makeFunc_run
  go_enter Tryz.func70, Tryz.ntmps70
  go_wp2_with go_in
  go_ret
  exact ⟨rfl, rfl⟩
set_option maxRecDepth 100000 in
theorem by_4 (w : World) : Calls Tryz.prog 70 #[.int .i64 4] w fun e w' => e = .returned (.func (.func 132) #[] #[.pointer (some ⟨w.heap.size, 0, none⟩)]) ∧ w' = w.alloc (.cells #[.func (.func 16) #[] #[]] 32) := by
  have hmf := @makeFunc_run
  go_enter Tryz.func70, Tryz.ntmps70
  go_wp2_with go_in
  go_ret
  exact ⟨rfl, rfl⟩
set_option maxRecDepth 100000 in
theorem by_5 (w : World) : Calls Tryz.prog 70 #[.int .i64 5] w fun e w' => e = .returned (.func (.func 132) #[] #[.pointer (some ⟨w.heap.size, 0, none⟩)]) ∧ w' = w.alloc (.cells #[.func (.func 107) #[] #[]] 32) := by
  have hmf := @makeFunc_run
  go_enter Tryz.func70, Tryz.ntmps70
  go_wp2_with go_in
  go_ret
  exact ⟨rfl, rfl⟩
set_option maxRecDepth 100000 in
theorem by_1 (w : World) : Calls Tryz.prog 70 #[.int .i64 1] w fun e w' => e = .returned (.func (.func 106) #[] #[]) ∧ w' = w := by
  have hmf := @makeFunc_run
  go_enter Tryz.func70, Tryz.ntmps70
  go_wp2_with go_in
  go_ret
  exact ⟨rfl, rfl⟩
set_option maxRecDepth 100000 in
theorem by_6 (w : World) : Calls Tryz.prog 70 #[.int .i64 6] w fun e w' => e = .returned (.func (.func 133) #[] #[.pointer (some ⟨w.heap.size, 0, none⟩)]) ∧ w' = w.alloc (.cells #[.func (.func 109) #[] #[]] 131) := by
  have hmf := @makeFunc_run
  go_enter Tryz.func70, Tryz.ntmps70
  go_wp2_with go_in
  go_ret
  exact ⟨rfl, rfl⟩
set_option maxRecDepth 100000 in
theorem by_7 (w : World) : Calls Tryz.prog 70 #[.int .i64 7] w fun e w' => e = .returned (.func (.func 133) #[] #[.pointer (some ⟨w.heap.size, 0, none⟩)]) ∧ w' = w.alloc (.cells #[.func (.func 110) #[] #[]] 131) := by
  have hmf := @makeFunc_run
  go_enter Tryz.func70, Tryz.ntmps70
  go_wp2_with go_in
  go_ret
  exact ⟨rfl, rfl⟩
set_option maxRecDepth 100000 in
theorem by_8 (w : World) : Calls Tryz.prog 70 #[.int .i64 8] w fun e w' => e = .returned (.func (.func 135) #[] #[.pointer (some ⟨w.heap.size, 0, none⟩)]) ∧ w' = w.alloc (.cells #[.func (.func 22) #[] #[]] 32) := by
  have hmf := @makeFunc_run
  go_enter Tryz.func70, Tryz.ntmps70
  go_wp2_with go_in
  go_ret
  exact ⟨rfl, rfl⟩
set_option maxRecDepth 100000 in
theorem by_9 (w : World) : Calls Tryz.prog 70 #[.int .i64 9] w fun e w' => e = .returned (.func (.func 135) #[] #[.pointer (some ⟨w.heap.size, 0, none⟩)]) ∧ w' = w.alloc (.cells #[.func (.func 20) #[] #[]] 32) := by
  have hmf := @makeFunc_run
  go_enter Tryz.func70, Tryz.ntmps70
  go_wp2_with go_in
  go_ret
  exact ⟨rfl, rfl⟩
set_option maxRecDepth 100000 in
theorem by_10 (w : World) : Calls Tryz.prog 70 #[.int .i64 10] w fun e w' => e = .returned (.func (.func 112) #[] #[]) ∧ w' = w := by
  have hmf := @makeFunc_run
  go_enter Tryz.func70, Tryz.ntmps70
  go_wp2_with go_in
  go_ret
  exact ⟨rfl, rfl⟩
end Go.Proofs.YtklkgicjfnbndaaGreat

namespace Go.Proofs.YtklkgicjfnbndaaGreat
set_option linter.unusedVariables false

section
variable {s t : List Nat} (hs : IsPerm s) (he : s.length % 2 = 0) (ht : IsPerm t) (hl : t.length = s.length) (hm : Mates t)
include hs he ht hl hm

end
end Go.Proofs.YtklkgicjfnbndaaGreat
