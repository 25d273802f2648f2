/- Rows of the call's own, of elements of several cells, in a registry; a row's last element taken. Conditions: none. walk.seen.kind: what is looked at. Conditions: the map is registered. Rows of steps (two integers each) in memory. Conditions: none. parquetryref08.Names. Conditions: the list is a permutation of an even number that lies in memory. -/
import Derived.Test.YtnbecpeiodcohaaZWalkPlane14
import Derived.Test.YtnbecpeiodcohaaZWalkPlane12
import Derived.Deep.DeepCutAuto
import Derived.Deep.RegionHeld3
import Derived.Test.YtnbecpeiodcohaaZWalkPlane16
import Derived.Test.YtnbecpeiodcohaaZWalkPlane17
import Derived.Deep.QuietTactic
import Derived.BigQuiet
namespace Go.Proofs.Ytnbecpeiodcohaa
open Go.RowKit
set_option linter.unusedVariables false

/-- a row of the call's own, of n elements of sz cells each -/
def OwnV (R : Reg) (B : Nat) (E : TypeId) (sz : Nat) (w : World) (v : Value) (n : Nat) (xs : List Value) : Prop :=
  w.ownsRow B E sz v n xs ∧ ∀ k, v.ownBlock = some k → R k = none

theorem OwnV.nil (R : Reg) (B : Nat) (E : TypeId) (sz : Nat) (w : World) : OwnV R B E sz w nilS 0 [] := ⟨World.ownsRow_nil w B E sz, fun k h => by simp [nilS, Value.ownBlock] at h⟩

theorem OwnV.mono {R : Reg} {B B' : Nat} {E : TypeId} {sz : Nat} {w : World} {v : Value} {n : Nat} {xs : List Value} (h : OwnV R B E sz w v n xs) (hB : B' ≤ B) : OwnV R B' E sz w v n xs := by
  obtain ⟨⟨h1, h2⟩, h3⟩ := h
  refine ⟨⟨h1, ?_⟩, h3⟩
  rcases h2 with h2 | ⟨g, cap, cur, hv, hg, r⟩
  · exact Or.inl h2
  · exact Or.inr ⟨g, cap, cur, hv, by omega, r⟩

theorem OwnV.ev {R R1 : Reg} {B : Nat} {E : TypeId} {sz : Nat} {w w1 : World} {v : Value} {n : Nat} {xs : List Value} (h : OwnV R B E sz w v n xs) (he : Ev R w R1 w1) : OwnV R1 B E sz w1 v n xs := by
  obtain ⟨⟨h1, h2⟩, h3⟩ := h
  rcases h2 with h2 | ⟨g, cap, cur, hv, hg, hh, r⟩
  · exact ⟨⟨h1, Or.inl h2⟩, fun k hk => by rw [h2.1] at hk; simp [Value.ownBlock] at hk⟩
  · have hn : R g = none := h3 g (by rw [hv]; rfl)
    refine ⟨⟨h1, Or.inr ⟨g, cap, cur, hv, hg, by rw [he.block g (lt_of_block hh) hn]; exact hh, r⟩⟩, fun k hk => ?_⟩
    rw [hv] at hk
    cases hk
    exact he.free g (lt_of_block hh) hn

theorem OwnV.kept {R : Reg} {B : Nat} {E : TypeId} {sz : Nat} {w w1 : World} {row : Option Nat} {v : Value} {n : Nat} {xs : List Value} (h : OwnV R B E sz w v n xs) (hg : w.grownBy w1 row) (hne : v.ownBlock = none ∨ v.ownBlock ≠ row) : OwnV R B E sz w1 v n xs :=
  ⟨h.1.kept hg hne, h.2⟩
theorem OwnV.alloc {R : Reg} {B : Nat} {E : TypeId} {sz : Nat} {w : World} {v : Value} {n : Nat} {xs : List Value} (h : OwnV R B E sz w v n xs) (o : Obj) : OwnV R B E sz (w.alloc o) v n xs := ⟨h.1.alloc o, h.2⟩
theorem OwnV.drew {R : Reg} {B : Nat} {E : TypeId} {sz : Nat} {w : World} {v : Value} {n : Nat} {xs : List Value} (h : OwnV R B E sz w v n xs) : OwnV R B E sz w.drew v n xs := h
theorem OwnV.lt {R : Reg} {B : Nat} {E : TypeId} {sz : Nat} {w : World} {v : Value} {n : Nat} {xs : List Value} (h : OwnV R B E sz w v n xs) : ∀ k, v.ownBlock = some k → B ≤ k ∧ k < w.heap.size := h.1.lt
theorem OwnV.size {R : Reg} {B : Nat} {E : TypeId} {sz : Nat} {w : World} {v : Value} {n : Nat} {xs : List Value} (h : OwnV R B E sz w v n xs) : xs.length = n * sz := h.1.1

theorem OwnV.setCell {R : Reg} {B : Nat} {E : TypeId} {sz : Nat} {w : World} {v : Value} {n : Nat} {xs : List Value} (h : OwnV R B E sz w v n xs) {a : Addr} (ha : v.ownBlock ≠ some a.block) (u : Value) : OwnV R B E sz (w.setCell a u) v n xs := by
  obtain ⟨⟨h1, h2⟩, h3⟩ := h
  refine ⟨⟨h1, ?_⟩, h3⟩
  rcases h2 with h2 | ⟨g, cap, cur, hv, hg, hh, r⟩
  · exact Or.inl h2
  · refine Or.inr ⟨g, cap, cur, hv, hg, ?_, r⟩
    rw [Below.heap_setCell _ _ _ _ (fun e => ha (by rw [hv, ← e]; rfl))]
    exact hh

/-- opened: the value, and each cell -/
theorem OwnV.open {R : Reg} {B : Nat} {E : TypeId} {sz : Nat} {w : World} {v : Value} {n : Nat} {xs : List Value} (h : OwnV R B E sz w v n xs) :
    ∃ a cap, v = .slice a n cap ∧ n ≤ cap ∧ cap ≤ maxLen ∧ (∀ i, i < xs.length → ∃ g, a = some ⟨g, 0, none⟩ ∧ B ≤ g ∧ R g = none ∧ w.cell? ⟨g, i, none⟩ = xs[i]? ∧ w.frozen? ⟨g, i, none⟩ = false) := by
  obtain ⟨⟨h1, h2⟩, h3⟩ := h
  rcases h2 with ⟨h2, hn⟩ | ⟨g, cap, cur, hv, hg, hh, hn, hm, hs, ht⟩
  · refine ⟨none, 0, by rw [h2, hn], by omega, by simp [maxLen], fun i hi => by rw [h1, hn] at hi; omega⟩
  · refine ⟨_, cap, hv, hn, hm, fun i hi => ⟨g, rfl, hg, h3 g (by rw [hv]; rfl), ?_, by simp [World.frozen?, hh]⟩⟩
    have hi' : i < n * sz := by rw [← h1]; exact hi
    rw [← ht]
    simp [World.cell?, hh, hi']

theorem OwnV.headAt {R : Reg} {B : Nat} {E : TypeId} {sz : Nat} {w : World} {a : Option Addr} {n cap : Nat} {xs : List Value} (h : OwnV R B E sz w (.slice a n cap) n xs) {i : Nat} (hi : i < xs.length) :
    ∃ g, a = some ⟨g, 0, none⟩ ∧ B ≤ g ∧ R g = none ∧ w.cell? ⟨g, i, none⟩ = xs[i]? ∧ w.frozen? ⟨g, i, none⟩ = false := by
  obtain ⟨a', cap', e, _, _, h⟩ := h.open
  cases e
  exact h i hi

theorem OwnV.put {R : Reg} {B : Nat} {E : TypeId} {sz : Nat} {w : World} {g n cap : Nat} {xs : List Value} (h : OwnV R B E sz w (.slice (some ⟨g, 0, none⟩) n cap) n xs) (i : Nat) (u : Value) :
    OwnV R B E sz (w.setCell ⟨g, i, none⟩ u) (.slice (some ⟨g, 0, none⟩) n cap) n (xs.set i u) := ⟨(h.1.stored i u).1, h.2⟩

section
variable {ops : Array Oper} {rest : List Oper} {o : Oper} {a : Act} {Q : Exit → Act → World → Prop}
/-- append of elements to one's own row -/
theorem wpList_app_row {w : World} (t E sz bytes : Nat) (z : Value) (ht : Try.prog.underlying t = some (.slice E)) (hin : (Try.prog.info? E).map (fun i => (i.zero, i.size, i.bytes)) = some (some z, sz, bytes)) (hzs : z.cells.size = sz) (hsz : 0 < sz) (hby : bytes ≤ 4096)
    (hgd : o.guard = none) (s x : Operand)
    (ho : o.op = .call { callee := .builtin .append, args := #[s, x], argTypes := #[t, t] })
    {R : Reg} {B : Nat} {v : Value} {n : Nat} {xs : List Value} (hown : OwnV R B E sz w v n xs) (hs : a.eval s = v) (ad : Addr) (m c : Nat) (ys : List Value) (hm : ys.length = m * sz) (hx : a.eval x = .slice (some ad) m c)
    (hc : ∀ j u, ys[j]? = some u → w.cell? (ad.add j) = some u) (h1 : ∀ u ∈ ys, u.oneCell' = true) (hn : n + m ≤ 8388608) (hB : B ≤ w.heap.size) (hR : ∀ k, w.heap.size ≤ k → R k = none)
    (h : ∀ v' w', OwnV R B E sz w' v' (n + m) (xs ++ ys) → w.grownBy w' v.ownBlock → (∀ k, v'.ownBlock = some k → v.ownBlock = some k ∨ w.heap.size ≤ k) → wpList Try.prog ops Q rest (a.put o.dst v') w') :
    wpList Try.prog ops Q (o :: rest) a w := by
  obtain ⟨i0, hi, hz0, hz1, hz2⟩ := info_parts hin
  obtain ⟨v', w', hr, h2, h3, h4⟩ := run_append_where (P := Try.prog) w B t o.type E i0 z sz bytes ht hi hz0 hz1 hz2 hzs hsz v n _ hown.1 ad m c ys hm hc h1 (by unfold maxLen; omega)
    (Nat.le_trans (Nat.mul_le_mul hn hby) (by decide)) hB
  refine wpList_plain hgd fun K hK => ?_
  unfold Oper.wp execOp
  simp only [ho, resolve, invoke, builtin, Sem.run_bind, Sem.run_pure, Result.andThen_ok, List.map_toArray, List.map_cons, List.map_nil, hs, hx, hr]
  refine hK _ _ (h v' w' ⟨h2, ?_⟩ h3 h4)
  intro k hk
  rcases h4 k hk with e | e
  · exact hown.2 k e
  · exact hR k e
end

theorem Ev.appV {R0 R : Reg} {w0 w w' : World} {B sz : Nat} {E : TypeId} {v : Value} {n : Nat} {xs : List Value} (he : Ev R0 w0 R w) (hown : OwnV R B E sz w v n xs) (hB : w0.heap.size ≤ B) (hg : w.grownBy w' v.ownBlock) : Ev R0 w0 R w' :=
  he.grown hg fun k hk => ⟨by have := hown.lt k hk; omega, hown.2 k hk⟩

/-- the last one is taken away -/
theorem OwnI.pop {R : Reg} {B : Nat} {E : TypeId} {w : World} {a : Option Addr} {n cap : Nat} {xs : List Int} {y : Int} (h : OwnI R B E w (.slice a n cap) (xs ++ [y])) : OwnI R B E w (.slice a (n - 1) cap) xs := by
  obtain ⟨⟨h1, h2⟩, h3⟩ := h
  have hn0 : n = xs.length + 1 := by
    rcases h2 with ⟨h2, hn⟩ | ⟨g, cap', cur, hv, hg, hh, hn, r⟩
    · simp at hn
    · have e : n = (xs ++ [y]).length := by injection hv
      rw [e]; simp
  subst hn0
  rcases h2 with ⟨h2, hn⟩ | ⟨g, cap', cur, hv, hg, hh, hn, hm, hs, ht⟩
  · simp at hn
  · obtain ⟨rfl, _, rfl⟩ : a = some ⟨g, 0, none⟩ ∧ _ ∧ cap = cap' := by injection hv with a b c; exact ⟨a, b, c⟩
    refine ⟨⟨by simp, Or.inr ⟨g, cap, cur, by rw [Nat.add_sub_cancel], hg, hh, by simp at hn; omega, hm, hs, ?_⟩⟩, fun k hk => h3 k hk⟩
    rw [Nat.mul_one]
    have := congrArg (List.take xs.length) ht
    rw [List.take_take, Nat.min_eq_left (by simp), List.map_append, List.take_left' (by simp)] at this
    exact this

theorem last_any (w : World) (a : Option Addr) (n cap : Nat) (xs : List Int) (y : Int) (hv : Ints w (.slice a n cap) (xs ++ [y])) (hn : n ≤ 4194304) :
    Calls Try.prog 118 #[.slice a n cap] w fun e w' => e = .returned (.tuple #[.int .i64 y, .slice a (n - 1) cap]) ∧ ∃ q, w' = w.drewN q := by
  have hn0 : n = xs.length + 1 := by rw [hv.length_eq]; simp
  obtain ⟨b, off, rfl, hc⟩ := hv.cell (i := xs.length) (by simp)
  have hcap : xs.length + 1 ≤ cap := by
    obtain ⟨a', cap', e, h, _⟩ := hv
    cases e
    simp at h
    omega
  have hnth : nth (xs ++ [y]) xs.length = y := by simp [nth]
  rw [hnth] at hc
  subst hn0
  clear hv hnth
  rw [Nat.add_sub_cancel]
  generalize hl : xs.length = m at *
  clear hl
  go_enter Try.func118, Try.ntmps118
  go_wp2_with fail
  go_region
  all_goals go_wp2
  all_goals go_ret2
  all_goals exact ⟨rfl, _, rfl⟩

end Go.Proofs.Ytnbecpeiodcohaa

namespace Go.Proofs.Ytnbecpeiodcohaa
open Go.RowKit
set_option linter.unusedVariables false

/-- the world goes on, but for some blocks of the caller's -/
structure EvP (X : Nat → Prop) (R : Reg) (w : World) (R' : Reg) (w' : World) : Prop where
  os : w'.os = w.os
  tape : w'.tape = w.tape
  output : w'.output = w.output
  size : w.heap.size ≤ w'.heap.size
  block : ∀ k, k < w.heap.size → R k = none → ¬ X k → w'.heap[k]? = w.heap[k]?
  reg : ∀ k r, R k = some r → R' k = some r
  free : ∀ k, k < w.heap.size → R k = none → R' k = none
  inv : Inv R' w'

theorem Ev.toP {R R' : Reg} {w w' : World} (h : Ev R w R' w') (X : Nat → Prop) : EvP X R w R' w' := ⟨h.os, h.tape, h.output, h.size, fun k hk hr _ => h.block k hk hr, h.reg, h.free, h.inv⟩
theorem EvP.trans {X : Nat → Prop} {R R1 R2 : Reg} {w w1 w2 : World} (h : EvP X R w R1 w1) (k : EvP X R1 w1 R2 w2) : EvP X R w R2 w2 :=
  ⟨k.os.trans h.os, k.tape.trans h.tape, k.output.trans h.output, Nat.le_trans h.size k.size,
    fun i hi hr hx => (k.block i (Nat.lt_of_lt_of_le hi h.size) (h.free i hi hr) hx).trans (h.block i hi hr hx),
    fun i r hr => k.reg _ _ (h.reg _ _ hr), fun i hi hr => k.free i (Nat.lt_of_lt_of_le hi h.size) (h.free i hi hr), k.inv⟩
theorem EvP.setCell {X : Nat → Prop} {R R1 : Reg} {w w1 : World} (h : EvP X R w R1 w1) {p : Addr} (hx : X p.block) (hr : R1 p.block = none) (u : Value) : EvP X R w R1 (w1.setCell p u) :=
  ⟨h.os, h.tape, h.output, by simpa using h.size, fun k hk hk0 hkx => by
      rw [Below.heap_setCell _ _ _ _ (fun e => hkx (by rw [e]; exact hx))]
      exact h.block k hk hk0 hkx, h.reg, h.free, h.inv.setCell hr u⟩
/-- from an earlier world, of which these blocks are no part -/
theorem Ev.thenP {X : Nat → Prop} {R0 R R' : Reg} {w0 w w' : World} (h : Ev R0 w0 R w) (k : EvP X R w R' w') (hX : ∀ i, X i → w0.heap.size ≤ i) : Ev R0 w0 R' w' :=
  ⟨k.os.trans h.os, k.tape.trans h.tape, k.output.trans h.output, Nat.le_trans h.size k.size,
    fun i hi hr => (k.block i (Nat.lt_of_lt_of_le hi h.size) (h.free i hi hr) (fun hx => by have := hX i hx; omega)).trans (h.block i hi hr),
    fun i r hr => k.reg _ _ (h.reg _ _ hr), fun i hi hr => k.free i (Nat.lt_of_lt_of_le hi h.size) (h.free i hi hr), k.inv⟩
theorem OwnV.evP {X : Nat → Prop} {R R1 : Reg} {B : Nat} {E : TypeId} {sz : Nat} {w w1 : World} {v : Value} {n : Nat} {xs : List Value} (h : OwnV R B E sz w v n xs) (he : EvP X R w R1 w1) (hX : ∀ i, X i → i < B) : OwnV R1 B E sz w1 v n xs := by
  obtain ⟨⟨h1, h2⟩, h3⟩ := h
  rcases h2 with h2 | ⟨g, cap, cur, hv, hg, hh, r⟩
  · exact ⟨⟨h1, Or.inl h2⟩, fun k hk => by rw [h2.1] at hk; simp [Value.ownBlock] at hk⟩
  · have hn : R g = none := h3 g (by rw [hv]; rfl)
    refine ⟨⟨h1, Or.inr ⟨g, cap, cur, hv, hg, by rw [he.block g (lt_of_block hh) hn (fun hx => by have := hX g hx; omega)]; exact hh, r⟩⟩, fun k hk => ?_⟩
    rw [hv] at hk
    cases hk
    exact he.free g (lt_of_block hh) hn

/-- what was looked at: the map, of each edge its first kind and one, which vertices were met -/
def SeenAt (R : Reg) (B : Nat) (w : World) (vs p : Value) (b ge gm : Nat) (ed : List Int) (mt : List Bool) : Prop :=
  vs = .pointer (some ⟨b, 0, none⟩) ∧ B ≤ b ∧ R b = none ∧ b ≠ ge ∧ b ≠ gm ∧ ge ≠ gm ∧
  (∃ T : TypeId, w.heap[b]? = some (.cells #[p, .slice (some ⟨ge, 0, none⟩) ed.length ed.length, .slice (some ⟨gm, 0, none⟩) mt.length mt.length] T (0, 0))) ∧
  OwnI R B 3 w (.slice (some ⟨ge, 0, none⟩) ed.length ed.length) ed ∧ OwnV R B 4 1 w (.slice (some ⟨gm, 0, none⟩) mt.length mt.length) mt.length (mt.map Value.bool)

theorem SeenAt.ev {R R1 : Reg} {B : Nat} {w w1 : World} {vs p : Value} {b ge gm : Nat} {ed : List Int} {mt : List Bool} (h : SeenAt R B w vs p b ge gm ed mt) (he : Ev R w R1 w1) : SeenAt R1 B w1 vs p b ge gm ed mt := by
  obtain ⟨h1, h2, h3, h4, h5, h6, ⟨T, h7⟩, h8, h9⟩ := h
  have hl := lt_of_block h7
  exact ⟨h1, h2, he.free b hl h3, h4, h5, h6, ⟨T, by rw [he.block b hl h3]; exact h7⟩, h8.ev he, h9.ev he⟩

theorem SeenAt.putE {R : Reg} {B : Nat} {w : World} {vs p : Value} {b ge gm : Nat} {ed : List Int} {mt : List Bool} (h : SeenAt R B w vs p b ge gm ed mt) {i : Nat} (hi : i < ed.length) (y : Int) :
    SeenAt R B (w.setCell ⟨ge, i, none⟩ (.int .i64 y)) vs p b ge gm (ed.set i y) mt := by
  obtain ⟨h1, h2, h3, h4, h5, h6, ⟨T, h7⟩, h8, h9⟩ := h
  refine ⟨h1, h2, h3, h4, h5, h6, ⟨T, ?_⟩, ?_, ?_⟩
  · rw [Below.heap_setCell _ _ _ _ h4, h7, List.length_set]
  · rw [List.length_set]; exact h8.put rfl i hi y
  · exact h9.setCell (a := ⟨ge, i, none⟩) (fun e => h6 (by cases e; rfl)) _
theorem SeenAt.putM {R : Reg} {B : Nat} {w : World} {vs p : Value} {b ge gm : Nat} {ed : List Int} {mt : List Bool} (h : SeenAt R B w vs p b ge gm ed mt) (i : Nat) (y : Bool) :
    SeenAt R B (w.setCell ⟨gm, i, none⟩ (.bool y)) vs p b ge gm ed (mt.set i y) := by
  obtain ⟨h1, h2, h3, h4, h5, h6, ⟨T, h7⟩, h8, h9⟩ := h
  refine ⟨h1, h2, h3, h4, h5, h6, ⟨T, ?_⟩, ?_, ?_⟩
  · rw [Below.heap_setCell _ _ _ _ h5, h7, List.length_set]
  · exact h8.setCell (a := ⟨gm, i, none⟩) (fun e => h6 (by cases e; rfl)) _
  · rw [List.length_set]
    have := h9.put i (.bool y)
    rwa [List.map_set]

def KindQ (R : Reg) (B : Nat) (w : World) (vs p : Value) (b ge gm : Nat) (s : List Nat) (st : WSt) (e : Ending) (w' : World) : Prop :=
  ∃ R', e = .returned (.int .i64 (wkind s st : Int)) ∧ EvP (fun k => k = ge ∨ k = gm) R w R' w' ∧ SeenAt R' B w' vs p b ge gm (wed s st) (wmt s st)

theorem getB_at {l : List Bool} {i : Nat} (h : i < l.length) : (l.map Value.bool)[i]? = some (.bool (getB l i)) := by
  simp [getB, h]

set_option maxRecDepth 100000 in
set_option maxHeartbeats 2000000 in
theorem kind_any (R : Reg) (w : World) (hI : Inv R w) (B : Nat) (vs p : Value) (b ge gm : Nat) (s : List Nat) (root lone : Int) (hp : MapAt R p s root lone) (st : WSt) (hs : SeenAt R B w vs p b ge gm st.ed st.mt)
    (hd : st.d < s.length) (hel : st.ed.length = s.length / 2) (hml : (sizesL s).length ≤ st.mt.length) (hmb : st.mt.length ≤ 4194304) (hv : nth st.ed (st.d / 2) = 0 ∨ nth st.ed (st.d / 2) = 1 ∨ nth st.ed (st.d / 2) = 3) :
    Calls Try.prog 77 #[vs, .int .i64 (st.d : Int)] w (KindQ R B w vs p b ge gm s st) := by
  obtain ⟨hS, hok⟩ := hp.ok hI
  have he2 : s.length % 2 = 0 := hok.1
  have hn : s.length ≤ 131073 := hok.2.1
  have hs0 := hs
  obtain ⟨rfl, hBb, hRb, hbe, hbm, hem, ⟨T, hblk⟩, hoe, hom⟩ := hs
  obtain ⟨d, ed, mt⟩ := st
  simp only at hd hel hml hmb hv hblk hoe hom hs0 ⊢
  have hde : d / 2 < ed.length := by omega
  have hxl := xor_one_lt he2 hd
  have hvl := vtx_lt hS hxl
  have hvx := vtx_eq hS hxl
  have HMt := Lib.hid (fun R' w' (he : Ev R w R' w') => by
    have := mate_any R' w' he.inv p s root lone (he.map hp) d
    rwa [mateI_in hd] at this)
  have HVt := Lib.hid (fun R' w' (he : Ev R w R' w') => by
    have := vertex_any R' w' he.inv p s root lone (he.map hp) ((d ^^^ 1 : Nat) : Int)
    rwa [nameI_in hxl, hvx] at this)
  obtain ⟨c, hc⟩ : ∃ c, nth ed (d / 2) = c := ⟨_, rfl⟩
  obtain ⟨_, e1, _, hRe, hce, hze⟩ := hoe.headAt rfl (i := d / 2) hde
  cases e1
  rw [hc] at hce hv
  have hK : wkind s ⟨d, ed, mt⟩ = if c = 0 then (if getB mt (vtx s (d ^^^ 1)) = true then 2 else 0) else if c = 1 then 1 else 3 := by unfold wkind; rw [hc]
  have hE : wed s ⟨d, ed, mt⟩ = if c = 0 then ed.set (d / 2) ((wkind s ⟨d, ed, mt⟩ : Int) + 1) else ed := by unfold wed; rw [hc]
  have hM : wmt s ⟨d, ed, mt⟩ = if wkind s ⟨d, ed, mt⟩ = 0 then mt.set (vtx s (d ^^^ 1)) true else mt := rfl
  obtain ⟨x, hx⟩ : ∃ x, d ^^^ 1 = x := ⟨_, rfl⟩
  obtain ⟨v, hvv⟩ : ∃ v, vtx s x = v := ⟨_, rfl⟩
  rw [hx] at HMt HVt hvl hK hM
  rw [hvv] at HVt hvl hK hM
  have hq : (d : Int) / 2 = ((d / 2 : Nat) : Int) := by omega
  obtain ⟨h, hh⟩ : ∃ h, d / 2 = h := ⟨_, rfl⟩
  rw [hh] at hde hce hze hq hE hc
  have hqh : (d : Int) / 2 = (h : Int) := hq
  have k0 : w.cell? ⟨b, 0, none⟩ = some p := cells_at hblk 0
  have k1 : w.cell? ⟨b, 1, none⟩ = some (.slice (some ⟨ge, 0, none⟩) ed.length ed.length) := cells_at hblk 1
  have k2 : w.cell? ⟨b, 2, none⟩ = some (.slice (some ⟨gm, 0, none⟩) mt.length mt.length) := cells_at hblk 2
  have HS0 := Lib.hid hs0
  have HI := Lib.hid hI
  have HEr := Lib.hid (Ev.refl hI)
  have HCL := Lib.hid (fun R' w' (he : Ev R w R' w') => (by
    have hb := he.block b (lt_of_block hblk) hRb
    rw [hblk] at hb
    exact ⟨cells_at hb 0, cells_at hb 1, cells_at hb 2⟩ : w'.cell? ⟨b, 0, none⟩ = some p ∧ w'.cell? ⟨b, 1, none⟩ = some (.slice (some ⟨ge, 0, none⟩) ed.length ed.length) ∧ w'.cell? ⟨b, 2, none⟩ = some (.slice (some ⟨gm, 0, none⟩) mt.length mt.length)))
  have hel2 : ed.length ≤ 131073 := by omega
  have hvm : v < mt.length := by omega
  clear hq hI hs0 hS hok hx hvv hvx hh hc hp hoe hom hblk hel hml hvl
  rcases hv with rfl | rfl | rfl
  · rw [if_pos rfl] at hE
    by_cases hm : getB mt v = true
    · rw [if_pos rfl, if_pos hm] at hK
      rw [hK] at hE hM
      rw [if_neg (by decide)] at hM
      have HE := Lib.hid hE
      have HM := Lib.hid hM
      have HK := Lib.hid hK
      have HEd := Lib.hid (Ev.refl HEr.out.inv).drew
      clear hE hM hK
      go_enter Try.func77, Try.ntmps77
      go_wp2_with fail
      go_cut [7] (fun s7 wx => s7 = .int .i64 (v : Int) ∧ ∃ R', Ev R w R' wx)
      case first =>
        go_region_held3 (fun w' => w'.cell? ⟨b, 0, none⟩ = some p ∧ w'.cell? ⟨b, 1, none⟩ = some (.slice (some ⟨ge, 0, none⟩) ed.length ed.length) ∧ w'.cell? ⟨b, 2, none⟩ = some (.slice (some ⟨gm, 0, none⟩) mt.length mt.length)) (exact ⟨k0, k1, k2⟩) (first | (go_at_call 30; refine (HMt.out _ _ HEd.out).mono ?_; rintro e w' ⟨rfl, rfl⟩) | (go_at_call 28; refine (HVt.out _ _ HEd.out).mono ?_; rintro e w' ⟨rfl, R', he⟩; have HEd := Lib.hid (HEd.out.trans he); clear he; obtain ⟨k0, k1, k2⟩ := HCL.out _ _ HEd.out))
        all_goals (go_wp2_with fail; go_meet)
        all_goals exact ⟨rfl, _, HEd.out⟩
      case rest =>
        obtain ⟨rfl, R', he⟩ := hcut
        have HEx := Lib.hid he
        obtain ⟨k0, k1, k2⟩ := HCL.out _ _ he
        obtain ⟨_, _, _, _, _, _, _, hoe, hom⟩ := HS0.out.ev he
        obtain ⟨_, e1, hBe, hRe', hce, hze⟩ := hoe.headAt rfl (i := h) hde
        cases e1
        have hmv := getB_at (l := mt) hvm
        obtain ⟨_, e1, hBm, hRm', hcm, hzm⟩ := hom.headAt (i := v) (by rw [List.length_map]; exact hvm)
        cases e1
        rw [hmv] at hcm
        rw [hm] at hcm
        have hst := hoe.put rfl h hde (3 : Int)
        have HST := Lib.hid hst
        have HOM := Lib.hid hom
        have HOE := Lib.hid hoe
        clear he hoe hom hst hmv
        go_wp2_with fail
        go_ret
        refine ⟨R', by rw [HK.out]; rfl, ?_, ?_⟩
        · exact (HEx.out.toP _).setCell (Or.inl rfl) hRe' _
        · rw [HE.out, HM.out]
          exact (HS0.out.ev HEx.out).putE hde 3

    · rw [if_pos rfl, if_neg hm] at hK
      rw [hK] at hE hM
      rw [if_pos rfl] at hM
      have HE := Lib.hid hE
      have HM := Lib.hid hM
      have HK := Lib.hid hK
      have HEd := Lib.hid (Ev.refl HEr.out.inv).drew
      clear hE hM hK
      go_enter Try.func77, Try.ntmps77
      go_wp2_with fail
      go_cut [7] (fun s7 wx => s7 = .int .i64 (v : Int) ∧ ∃ R', Ev R w R' wx)
      case first =>
        go_region_held3 (fun w' => w'.cell? ⟨b, 0, none⟩ = some p ∧ w'.cell? ⟨b, 1, none⟩ = some (.slice (some ⟨ge, 0, none⟩) ed.length ed.length) ∧ w'.cell? ⟨b, 2, none⟩ = some (.slice (some ⟨gm, 0, none⟩) mt.length mt.length)) (exact ⟨k0, k1, k2⟩) (first | (go_at_call 30; refine (HMt.out _ _ HEd.out).mono ?_; rintro e w' ⟨rfl, rfl⟩) | (go_at_call 28; refine (HVt.out _ _ HEd.out).mono ?_; rintro e w' ⟨rfl, R', he⟩; have HEd := Lib.hid (HEd.out.trans he); clear he; obtain ⟨k0, k1, k2⟩ := HCL.out _ _ HEd.out))
        all_goals (go_wp2_with fail; go_meet)
        all_goals exact ⟨rfl, _, HEd.out⟩
      case rest =>
        obtain ⟨rfl, R', he⟩ := hcut
        have HEx := Lib.hid he
        obtain ⟨k0, k1, k2⟩ := HCL.out _ _ he
        obtain ⟨_, _, _, _, _, _, _, hoe, hom⟩ := HS0.out.ev he
        obtain ⟨_, e1, hBe, hRe', hce, hze⟩ := hoe.headAt rfl (i := h) hde
        cases e1
        have hmv := getB_at (l := mt) hvm
        obtain ⟨_, e1, hBm, hRm', hcm, hzm⟩ := hom.headAt (i := v) (by rw [List.length_map]; exact hvm)
        cases e1
        rw [hmv] at hcm
        rw [show getB mt v = false by simpa using hm] at hcm
        have hst := hoe.put rfl h hde (1 : Int)
        have HST := Lib.hid hst
        have HOM := Lib.hid hom
        have HOE := Lib.hid hoe
        clear he hoe hom hst hmv
        go_wp2_with fail
        go_ret
        refine ⟨R', by rw [HK.out]; rfl, ?_, ?_⟩
        · exact ((HEx.out.toP _).setCell (p := ⟨gm, v, none⟩) (Or.inr rfl) hRm' _).setCell (p := ⟨ge, h, none⟩) (Or.inl rfl) hRe' _
        · rw [HE.out, HM.out]
          exact ((HS0.out.ev HEx.out).putM v true).putE hde 1

  · rw [if_neg (by decide)] at hE
    rw [if_neg (by decide), if_pos rfl] at hK
    rw [hK, if_neg (by decide)] at hM
    have HE := Lib.hid hE
    have HM := Lib.hid hM
    have HK := Lib.hid hK
    clear hE hM hK
    go_enter Try.func77, Try.ntmps77
    go_wp2_with fail
    go_ret
    exact ⟨R, by rw [HK.out]; rfl, HEr.out.toP _, by rw [HE.out, HM.out]; exact HS0.out⟩
  · rw [if_neg (by decide)] at hE
    rw [if_neg (by decide), if_neg (by decide)] at hK
    rw [hK, if_neg (by decide)] at hM
    have HE := Lib.hid hE
    have HM := Lib.hid hM
    have HK := Lib.hid hK
    clear hE hM hK
    go_enter Try.func77, Try.ntmps77
    go_wp2_with fail
    go_ret
    exact ⟨R, by rw [HK.out]; rfl, HEr.out.toP _, by rw [HE.out, HM.out]; exact HS0.out⟩

end Go.Proofs.Ytnbecpeiodcohaa

namespace Go.Proofs.Ytnbecpeiodcohaa
open Go.RowKit
set_option linter.unusedVariables false

def stepsV : List (Int × Int) → List Value
  | [] => []
  | x :: l => .int .i64 x.1 :: .int .i64 x.2 :: stepsV l
theorem stepsV_length : ∀ l, (stepsV l).length = l.length * 2
  | [] => rfl
  | x :: l => by
    show (stepsV l).length + 1 + 1 = (l.length + 1) * 2
    rw [stepsV_length l]; omega
theorem stepsV_append : ∀ l m, stepsV (l ++ m) = stepsV l ++ stepsV m
  | [], _ => rfl
  | x :: l, m => by
    show _ :: _ :: stepsV (l ++ m) = _ :: _ :: (stepsV l ++ stepsV m)
    rw [stepsV_append l m]
def nthS (l : List (Int × Int)) (i : Nat) : Int × Int := l.getD i (0, 0)
theorem stepsV_get : ∀ {l : List (Int × Int)} {i : Nat}, i < l.length → (stepsV l)[i * 2]? = some (.int .i64 (nthS l i).1) ∧ (stepsV l)[i * 2 + 1]? = some (.int .i64 (nthS l i).2)
  | x :: l, 0, _ => ⟨rfl, rfl⟩
  | x :: l, i + 1, h => by
    have ih := stepsV_get (l := l) (i := i) (by simpa using h)
    have e : (i + 1) * 2 = i * 2 + 1 + 1 := by omega
    rw [e]
    exact ih
theorem stepsV_one : ∀ (l : List (Int × Int)) (u : Value), u ∈ stepsV l → u.oneCell' = true
  | [], u, h => by cases h
  | x :: l, u, h => by
    unfold stepsV at h
    simp only [List.mem_cons] at h
    rcases h with rfl | rfl | h
    · rfl
    · rfl
    · exact stepsV_one l u h
theorem nthS_take {l : List (Int × Int)} {k i : Nat} (h : i < k) : nthS (l.take k) i = nthS l i := by
  unfold nthS
  rw [List.getD_eq_getElem?_getD, List.getD_eq_getElem?_getD, List.getElem?_take, if_pos h]
theorem nthS_append_left {l m : List (Int × Int)} {i : Nat} (h : i < l.length) : nthS (l ++ m) i = nthS l i := by
  unfold nthS
  rw [List.getD_eq_getElem?_getD, List.getD_eq_getElem?_getD, List.getElem?_append_left h]
theorem nthS_get {l : List (Int × Int)} {i : Nat} (h : i < l.length) : nthS l i = l[i] := by
  unfold nthS; rw [List.getD_eq_getElem?_getD, List.getElem?_eq_getElem h]; rfl

theorem cells_new (w : World) (l : List Value) (T : TypeId) (j : Nat) (u : Value) (h : l[j]? = some u) : (w.alloc (.cells l.toArray T)).cell? ((⟨w.heap.size, 0, none⟩ : Addr).add j) = some u := by
  have hadd : (⟨w.heap.size, 0, none⟩ : Addr).add j = ⟨w.heap.size, j, none⟩ := by unfold Addr.add; split <;> simp_all
  rw [hadd]
  simp [h]

theorem step_info : (Try.prog.info? 41).map (fun i => (i.zero, i.size, i.bytes)) = some (some (.agg #[.int .i64 0, .int .i64 0]), 2, 16) := by kernel_rfl

/-- a row of steps that is read: in a block that no one has registered, or of no element -/
def FreeS (R : Reg) (w : World) (v : Value) (xs : List (Int × Int)) : Prop :=
  ∃ a cap, v = .slice a xs.length cap ∧ xs.length ≤ cap ∧ cap ≤ maxLen ∧ ∀ i, i < xs.length → ∃ b off, a = some ⟨b, off, none⟩ ∧ R b = none ∧ w.cell? ⟨b, off + i * 2, none⟩ = some (.int .i64 (nthS xs i).1) ∧ w.cell? ⟨b, off + i * 2 + 1, none⟩ = some (.int .i64 (nthS xs i).2)
theorem FreeS.ev {R R1 : Reg} {w w1 : World} {v : Value} {xs : List (Int × Int)} (h : FreeS R w v xs) (he : Ev R w R1 w1) : FreeS R1 w1 v xs := by
  obtain ⟨a, cap, h1, h2, h3, h4⟩ := h
  refine ⟨a, cap, h1, h2, h3, fun i hi => ?_⟩
  obtain ⟨b, off, e, hb, c1, c2⟩ := h4 i hi
  have hl := lt_of_cell c1
  exact ⟨b, off, e, he.free b hl hb, (he.cell hl hb).trans c1, (he.cell hl hb).trans c2⟩
theorem FreeS.nil (R : Reg) (w : World) : FreeS R w nilS [] := ⟨none, 0, rfl, Nat.le_refl _, by simp [maxLen], fun i hi => by simp at hi⟩
theorem FreeS.of_own {R : Reg} {B : Nat} {E : TypeId} {w : World} {v : Value} {xs : List (Int × Int)} (h : OwnV R B E 2 w v xs.length (stepsV xs)) : FreeS R w v xs := by
  obtain ⟨a, cap, e, h1, h2, h3⟩ := h.open
  refine ⟨a, cap, e, h1, h2, fun i hi => ?_⟩
  obtain ⟨g, e1, _, hn, c1, _⟩ := h3 (i * 2) (by rw [stepsV_length]; omega)
  obtain ⟨g', e2, _, _, c2, _⟩ := h3 (i * 2 + 1) (by rw [stepsV_length]; omega)
  have e3 : g' = g := by rw [e1] at e2; injection e2 with e2; injection e2 with e2; exact e2.symm
  subst e3
  exact ⟨g', 0, e1, hn, by rw [Nat.zero_add, c1, (stepsV_get hi).1], by rw [Nat.zero_add, c2, (stepsV_get hi).2]⟩
theorem FreeS.take {R : Reg} {w : World} {a : Option Addr} {n cap : Nat} {xs : List (Int × Int)} (h : FreeS R w (.slice a n cap) xs) {k : Nat} (hk : k ≤ n) : FreeS R w (.slice a k cap) (xs.take k) := by
  obtain ⟨a', cap', e, h1, h2, h3⟩ := h
  cases e
  have hl : (xs.take k).length = k := by rw [List.length_take]; omega
  refine ⟨_, _, by rw [hl], by omega, h2, fun i hi => ?_⟩
  rw [hl] at hi
  rw [nthS_take hi]
  exact h3 i (by omega)
theorem FreeS.open {R : Reg} {w : World} {v : Value} {xs : List (Int × Int)} (h : FreeS R w v xs) : ∃ a cap, v = .slice a xs.length cap ∧ FreeS R w (.slice a xs.length cap) xs := by
  have h' := h
  obtain ⟨a, cap, e, _⟩ := h
  subst e
  exact ⟨a, cap, rfl, h'⟩
theorem FreeS.at {R : Reg} {w : World} {a : Option Addr} {n cap : Nat} {xs : List (Int × Int)} (h : FreeS R w (.slice a n cap) xs) {i : Nat} (hi : i < n) :
    ∃ b off, a = some ⟨b, off, none⟩ ∧ R b = none ∧ w.cell? ⟨b, off + i * 2, none⟩ = some (.int .i64 (nthS xs i).1) ∧ w.cell? ⟨b, off + i * 2 + 1, none⟩ = some (.int .i64 (nthS xs i).2) := by
  obtain ⟨a', cap', e, h1, h2, h3⟩ := h
  cases e
  exact h3 i hi
theorem FreeS.length {R : Reg} {w : World} {a : Option Addr} {n cap : Nat} {xs : List (Int × Int)} (h : FreeS R w (.slice a n cap) xs) : n = xs.length := by
  obtain ⟨a', cap', e, h1, h2, h3⟩ := h
  cases e
  rfl

/-- make([]T, n) as an equation, in whatever world -/
theorem make_eq {n : Nat} {z : Value} {t e : TypeId} {i : TypeInfo} (h1 : Try.prog.underlying t = some (.slice e)) (h2 : Try.prog.info? e = some i) (h3 : i.zero = some z) (h4 : i.size = 1) (b2 : i.bytes * n ≤ 281474976710656) (b3 : n ≤ maxLen) (W : World) :
    (Instr.makeSlice t (.int .i64 (n : Int)) (.int .i64 (n : Int))).run Try.prog W = .ok (.slice (some ⟨W.heap.size, 0, none⟩) n n) (W.alloc (.cells (madeCells z.cells (n * 1)) e)) := by
  have h63' : (n : Int) ≤ 9223372036854775807 := by
    have h := b3
    simp [maxLen] at h
    omega
  have hb' : (i.bytes : Int) * (n : Int) ≤ 281474976710656 := by
    have h : ((i.bytes * n : Nat) : Int) ≤ 281474976710656 := by omega
    rwa [Int.natCast_mul] at h
  have hr := run_make (P := Try.prog) W t e i z h1 h2 h3 .i64 .i64 n n (by omega) (Int.le_refl _) hb' h63'
  simp only [Int.toNat_natCast, h4] at hr
  exact hr

/-- one's own row of noughts, of one cell each -/
theorem OwnV.madeAt {R : Reg} {w1 : World} {B : Nat} {E : TypeId} {g n : Nat} {z : Value} (hg : R g = none) (ho : w1.ownsRow B E 1 (.slice (some ⟨g, 0, none⟩) n n) n (madeCells #[z] (n * 1)).toList) :
    OwnV R B E 1 w1 (.slice (some ⟨g, 0, none⟩) n n) n (List.replicate n z) := by
  refine ⟨?_, fun k hk => ?_⟩
  · rw [Nat.mul_one, toList_madeCells_one] at ho
    exact ho
  · simp only [Value.ownBlock, Option.some.injEq] at hk
    rw [← hk]; exact hg

/-- a row of noughts, laid in the heap -/
theorem rowI_made {R : Reg} {W : World} {B n : Nat} (hI : Inv R W) (hB : B ≤ W.heap.size) (hn : n ≤ maxLen) :
    OwnI R B 3 (W.alloc (.cells (madeCells #[.int .i64 0] (n * 1)) 3)) (.slice (some ⟨W.heap.size, 0, none⟩) n n) (List.replicate n 0) := by
  have h := World.ownsRow_lit (size := 1) (e := 3) W _ n hB hn (size_madeCells #[.int .i64 0] (n * 1))
  exact OwnI.made hI (by simpa using h)
theorem rowV_made {R : Reg} {W : World} {B n : Nat} {E : TypeId} {z : Value} (hI : Inv R W) (hB : B ≤ W.heap.size) (hn : n ≤ maxLen) :
    OwnV R B E 1 (W.alloc (.cells (madeCells #[z] (n * 1)) E)) (.slice (some ⟨W.heap.size, 0, none⟩) n n) n (List.replicate n z) := by
  have h := World.ownsRow_lit (size := 1) (e := E) W _ n hB hn (size_madeCells #[z] (n * 1))
  exact OwnV.madeAt (hI.none_of_ge (Nat.le_refl _)) h

end Go.Proofs.Ytnbecpeiodcohaa

namespace Go.Proofs.Ytnbecpeiodcohaa
open Go.RowKit
set_option linter.unusedVariables false

theorem OwnI.madeAt {R : Reg} {w1 : World} {g n B : Nat} (hg : R g = none) (ho : w1.ownsRow B 3 1 (.slice (some ⟨g, 0, none⟩) n n) n (madeCells #[.int .i64 0] n).toList) :
    OwnI R B 3 w1 (.slice (some ⟨g, 0, none⟩) n n) (List.replicate n 0) := by
  refine ⟨?_, fun k hk => ?_⟩
  · rw [toList_madeCells_one] at ho
    simpa using ho
  · simp only [Value.ownBlock, Option.some.injEq] at hk
    rw [← hk]; exact hg

theorem OwnI.drewN {R : Reg} {B : Nat} {E : TypeId} {w : World} {v : Value} {xs : List Int} (h : OwnI R B E w v xs) (q : Nat) : OwnI R B E (w.drewN q) v xs := h

/-- labels while they are laid -/
def rangeTo (n k : Nat) : List Nat := List.range k ++ List.replicate (n - k) 0
theorem rangeTo_length {n k : Nat} (h : k ≤ n) : (rangeTo n k).length = n := by simp [rangeTo]; omega
theorem rangeTo_set {n k : Nat} (h : k < n) : (rangeTo n k).set k k = rangeTo n (k + 1) := by
  unfold rangeTo
  rw [List.set_append_right _ _ (by simp), List.length_range, Nat.sub_self, show n - k = (n - (k + 1)) + 1 by omega, List.replicate_succ, List.set_cons_zero, List.range_succ, List.append_assoc]
  rfl

/-- one round, as far as dart d has been looked at -/
def RInv (s : List Nat) (L0 L : List Nat) (ch : Bool) (d : Nat) (P : Prop) : Prop :=
  LInv s L ∧ (ch = true → sumL L + 1 ≤ sumL L0) ∧ (ch = false → L = L0 ∧ (∀ e, e < d → at' L (at' s e) = at' L e ∧ at' L (e ^^^ 1) = at' L e) ∧ P)

set_option maxRecDepth 100000 in
set_option maxHeartbeats 4000000 in
theorem r8names_any (R : Reg) (w : World) (hI : Inv R w) (v : Value) (s : List Nat) (root lone : Int) (hv : FreeI R w v (toI s)) (hS : IsPerm s) (hn : s.length ≤ 131073) (he : s.length % 2 = 0) :
    Calls Try.prog 20 #[refV v root lone] w (RetOwn R w (partsL s)) := by
  obtain ⟨a0, cap0, rfl, hv⟩ := hv.open
  rw [toI_length] at hv ⊢
  obtain ⟨n, hl⟩ : ∃ n, s.length = n := ⟨_, rfl⟩
  have HLast := Lib.hid (fun (L : List Nat) (h : LInv s L) (hc : LClosed s L) d (hd : d < s.length) => h.last hS he hc hd)
  have HCnt := Lib.hid (fun k (hk : k ≤ s.length) => (partsL_ord hS he).cnt_le hk)
  have HPL := Lib.hid (partsL_length hS he)
  have HBd := Lib.hid (fun d (hd : d < s.length) => partsL_lt hS he hd)
  have HPN := Lib.hid (partsN_le hS he)
  have HXL := Lib.hid (fun x (hx : x < n) => xor_one_lt (n := n) (by omega) hx)
  have HSL := Lib.hid (fun x (hx : x < n) => (by have := hS.lt (i := x) (by omega); omega : at' s x < n))
  have HCs := Lib.hid (fun x (hx : x < s.length) => Con.step hS hx)
  have HCm := Lib.hid (fun x (hx : x < s.length) => Con.mate hS he hx)
  have HSt := Lib.hid (LInv.start hS)
  have HL := Lib.hid hl
  rw [hl] at hn he hv ⊢
  have HI := Lib.hid hI
  have HV := Lib.hid hv
  have HS := Lib.hid hS
  have HMT := Lib.hid rmate_any
  obtain ⟨i0, hi, hz0, hz1, hz2⟩ := info_parts int_info
  clear hI hl hv hS
  unfold refV
  go_enter Try.func20, Try.ntmps20
  go_wp2_with (refine wpList_make_full _ rfl _ _ 25 rfl w.heap.size 3 i0 (.int .i64 0) 1 Try.underlying25 hi hz0 hz1 .i64 .i64 (n : Int) (n : Int) n rfl rfl rfl rfl ?q1 ?q2 (by simp) ?_)
  case q1 => rw [hz2]; omega
  case q2 => unfold maxLen; omega
  intro w1 ho1 hg1
  have he0 : Ev R w R (w.alloc (.cells #[.slice a0 n cap0, .int .i64 root, .int .i64 lone] 27)) := (Ev.refl HI.out).alloc _
  have hgn : R (w.heap.size + 1) = none := HI.out.none_of_ge (by omega)
  have hown : OwnI R (w.heap.size + 1) 3 w1 (.slice (some ⟨w.heap.size + 1, 0, none⟩) n n) (toI (rangeTo n 0)) := by
    have := OwnI.madeAt (R := R) (g := w.heap.size + 1) hgn (by simpa using ho1)
    rw [show toI (rangeTo n 0) = List.replicate n 0 by simp [toI, rangeTo]]
    refine ⟨⟨this.1.1, ?_⟩, this.2⟩
    rcases this.1.2 with h | ⟨g, cap, cur, hv, hg, r⟩
    · exact Or.inl h
    · refine Or.inr ⟨g, cap, cur, hv, ?_, r⟩
      injection hv with e
      injection e with e
      injection e with e
      omega
  obtain ⟨w0, hw0⟩ : ∃ w0, w0 = w.alloc (.cells #[.slice a0 n cap0, .int .i64 root, .int .i64 lone] 27) := ⟨_, rfl⟩
  rw [← hw0] at he0 hg1
  have hsz0 : w0.heap.size = w.heap.size + 1 := by rw [hw0]; simp
  have he1 : Ev R w0 R w1 := (Ev.refl he0.inv).grown hg1 (by simp)
  have HO1 := Lib.hid hown
  have HE0 := Lib.hid he0
  have HE1 := Lib.hid he1
  have hcell : ∀ w', Ev R w0 R w' → w'.cell? ⟨w.heap.size, 0, none⟩ = some (.slice a0 n cap0) := fun w' h => by
    rw [h.cell (by omega) (HI.out.none_of_ge (Nat.le_refl _)), hw0]
    simp
  have HCL := Lib.hid hcell
  clear ho1 hg1 hown he1 he0 hcell hw0
  go_wp2_with fail
  obtain ⟨b, hb⟩ : ∃ b, w.heap.size + 1 = b := ⟨_, rfl⟩
  rw [hb] at HO1 hgn hsz0 ⊢
  have hbw : w.heap.size < b := by omega
  have hRb := hgn
  have HSZ := Lib.hid hsz0
  clear hb hgn hsz0
  go_loopg [19] n (fun g v19 wr => ∃ k : Nat, k ≤ n ∧ n - k ≤ g ∧ v19 = .int .i64 (k : Int) ∧ Ev R w0 R wr ∧ OwnI R b 3 wr (.slice (some ⟨b, 0, none⟩) n n) (toI (rangeTo n k)))
  case atStart => exact ⟨0, Nat.zero_le _, by omega, rfl, HE1.out, HO1.out⟩
  case round =>
    obtain ⟨k, hk, hg, rfl, he1, ho⟩ := hrel
    have HLE := Lib.hid (show (toI (rangeTo n k)).length = n by rw [toI_length, rangeTo_length hk])
    have HE := Lib.hid he1
    have HO := Lib.hid ho
    clear he1 ho
    by_cases hkn : k < n
    · obtain ⟨gb, e1, _, _, hc, hz⟩ := HO.out.headAt HLE.out (i := k) hkn
      cases e1
      have hst := HO.out.put HLE.out k hkn (k : Int)
      rw [← toI_set, rangeTo_set hkn] at hst
      have HST := Lib.hid hst
      clear hst
      go_wp2_with fail
      go_roundg (n - (k + 1))
      case measure => omega
      case rel => exact ⟨k + 1, by omega, by omega, by go_num, HE.out.setCell (Nat.le_of_eq HSZ.out) hRb _, HST.out⟩
    · obtain rfl : k = n := by omega
      have hL0 : rangeTo k k = List.range k := by simp [rangeTo]
      rw [hL0] at HO HLE
      obtain ⟨wj, hwj⟩ : ∃ wj : World, wj = wr := ⟨_, rfl⟩
      subst hwj
      obtain ⟨n, hnj⟩ : ∃ n, n = k := ⟨_, rfl⟩
      subst hnj
      have HLS : Hid (LInv s (List.range n)) := Lib.hid (by rw [← HL.out]; exact HSt.out)
      clear hL0 hkn hg hk
      go_wp2_with fail
      go_loopg [5] (sumL (List.range n) + 1) (fun g v5 wr => ∃ (L : List Nat) (ch : Bool), v5 = .bool ch ∧ Ev R w0 R wr ∧ OwnI R b 3 wr (.slice (some ⟨b, 0, none⟩) n n) (toI L) ∧ LInv s L ∧ (ch = true → sumL L + 1 ≤ g) ∧ (ch = false → LClosed s L))
      case atStart => exact ⟨_, true, rfl, HE.out, HO.out, HLS.out, fun _ => Nat.le_refl _, fun h => by cases h⟩
      case round =>
        obtain ⟨L0, ch, rfl, he1, ho, hli, hch1, hch2⟩ := hrel
        cases ch with
        | true =>
          have hg1 := hch1 rfl
          have HLI := Lib.hid hli
          have HEa := Lib.hid he1
          have HOa := Lib.hid ho
          clear he1 ho hli hch1 hch2
          obtain ⟨g1, rfl⟩ : ∃ g1, gk = g1 + 1 := ⟨gk - 1, by omega⟩
          go_wp2_with fail
          go_loopg [5, 30] n (fun g v5 v30 wr => ∃ (L : List Nat) (ch : Bool) (d : Nat), d ≤ n ∧ n - d ≤ g ∧ v5 = .bool ch ∧ v30 = .int .i64 (d : Int) ∧ Ev R w0 R wr ∧ OwnI R b 3 wr (.slice (some ⟨b, 0, none⟩) n n) (toI L) ∧ RInv s L0 L ch d True)
          case atStart => exact ⟨L0, false, 0, Nat.zero_le _, by omega, rfl, rfl, HEa.out, HOa.out, HLI.out, fun h => (by cases h), fun _ => ⟨rfl, fun e he => absurd he (Nat.not_lt_zero _), trivial⟩⟩
          case round =>
            obtain ⟨L, ch, d, hd, hg2, rfl, rfl, he1, ho, hri⟩ := hrel
            have HEb := Lib.hid he1
            have HOb := Lib.hid ho
            have HRI := Lib.hid hri
            clear he1 ho hri
            by_cases hdn : d < n
            · go_wp2_with fail
              have c0 := HCL.out wr HEb.out
              obtain ⟨bs, os, e1, hcs⟩ := (HV.out.ev (HE0.out.trans HEb.out)).at (i := d) (by rw [HL.out]; exact hdn)
              subst e1
              have HMd := Lib.hid (HMT.out wr.drew d (by omega))
              have hy1 := HSL.out d hdn
              have hy2 := HXL.out d hdn
              have HC1 := Lib.hid (HCs.out d (by rw [HL.out]; exact hdn))
              have HC2 := Lib.hid (HCm.out d (by rw [HL.out]; exact hdn))
              obtain ⟨y1, hy1e⟩ : ∃ y, at' s d = y := ⟨_, rfl⟩
              obtain ⟨y2, hy2e⟩ : ∃ y, d ^^^ 1 = y := ⟨_, rfl⟩
              rw [hy1e] at hy1 hcs HC1
              rw [hy2e] at hy2 HMd HC2
              have HY1 := Lib.hid hy1e
              have HY2 := Lib.hid hy2e
              have hltb : b < wr.heap.size := by have := HOb.out.lt b rfl; exact this.2
              clear hy1e hy2e
              go_cut [40, 41, 42] (fun s40 s41 s42 wx => ∃ g : Nat, b < g ∧ s40 = .slice (some ⟨g, 0, none⟩) 2 2 ∧ s41 = .int .i64 2 ∧ s42 = .int .i64 0 ∧ Ev R w0 R wx ∧ OwnI R b 3 wx (.slice (some ⟨b, 0, none⟩) n n) (toI L) ∧ R g = none ∧ wx.cell? ⟨g, 0, none⟩ = some (.int .i64 (y1 : Int)) ∧ wx.cell? ⟨g, 1, none⟩ = some (.int .i64 (y2 : Int)))
              case first =>
                go_region_with (go_at_call 80; refine HMd.out.mono ?_; rintro e w' ⟨rfl, rfl⟩)
                all_goals (go_wp2_with fail; go_meet)
                all_goals exact ⟨wr.heap.size, hltb, rfl, rfl, rfl, (HEb.out.alloc _).drew, (HOb.out.alloc _).drew, HEb.out.inv.none_of_ge (Nat.le_refl _), by simp, by simp⟩
              case rest =>
                obtain ⟨gq, hgq, rfl, rfl, rfl, he, ho, hgn, hc1, hc2⟩ := hcut
                have HEc := Lib.hid he
                have HOc := Lib.hid ho
                obtain ⟨ys, hys⟩ : ∃ ys : Nat → Nat, (ys 0 = y1 ∧ ys 1 = y2) := ⟨fun i => if i = 0 then y1 else y2, by simp, by simp⟩
                have hcg : ∀ i, i < 2 → wc.cell? ⟨gq, i, none⟩ = some (.int .i64 ((ys i : Nat) : Int)) := fun i hi => by
                  rcases (show i = 0 ∨ i = 1 by omega) with rfl | rfl
                  · rw [hys.1]; exact hc1
                  · rw [hys.2]; exact hc2
                have hyl : ∀ i, i < 2 → ys i < n ∧ Con s (ys i) d := fun i hi => by
                  have hp := Con.per HS.out
                  rcases (show i = 0 ∨ i = 1 by omega) with rfl | rfl
                  · rw [hys.1]; exact ⟨hy1, hp.symm HC1.out⟩
                  · rw [hys.2]; exact ⟨hy2, hp.symm HC2.out⟩
                have HYS := Lib.hid hys
                have HCG := Lib.hid hcg
                have HYL := Lib.hid hyl
                clear he ho hys hcg hyl hc1 hc2 c0 hcs
                go_wp2_with fail
                go_loopg [5, 42] 2 (fun g v5 v42 wr => ∃ (L' : List Nat) (ch' : Bool) (i : Nat), i ≤ 2 ∧ 2 - i ≤ g ∧ v5 = .bool ch' ∧ v42 = .int .i64 (i : Int) ∧ Ev R w0 R wr ∧ OwnI R b 3 wr (.slice (some ⟨b, 0, none⟩) n n) (toI L') ∧ (∀ i, i < 2 → wr.cell? ⟨gq, i, none⟩ = some (.int .i64 ((ys i : Nat) : Int))) ∧ RInv s L0 L' ch' d (∀ k, k < i → at' L' (ys k) = at' L' d))
                case atStart =>
                  obtain ⟨r1, r2, r3⟩ := HRI.out
                  exact ⟨L, ch, 0, by omega, by omega, rfl, rfl, HEc.out, HOc.out, HCG.out, r1, r2, fun h => ⟨(r3 h).1, (r3 h).2.1, fun k hk => absurd hk (Nat.not_lt_zero _)⟩⟩
                case round =>
                  obtain ⟨L', ch', i, hi, hg3, rfl, rfl, he, ho, hcg, hri⟩ := hrel
                  have HEd := Lib.hid he
                  have HOd := Lib.hid ho
                  have HRd := Lib.hid hri
                  have HCd := Lib.hid hcg
                  clear he ho hri hcg
                  by_cases hi2 : i < 2
                  · have hcx := HCd.out i hi2
                    obtain ⟨hyl, hycon⟩ := HYL.out i hi2
                    obtain ⟨x, hx⟩ : ∃ x, ys i = x := ⟨_, rfl⟩
                    rw [hx] at hcx hyl hycon
                    have HX := Lib.hid hx
                    have HLn : Hid ((toI L').length = n) := Lib.hid (by rw [toI_length, HRd.out.1.len, HL.out])
                    obtain ⟨_, e1, _, _, hcA, hzA⟩ := HOd.out.headAt HLn.out (i := x) hyl
                    cases e1
                    obtain ⟨_, e1, _, _, hcB, hzB⟩ := HOd.out.headAt HLn.out (i := d) hdn
                    cases e1
                    rw [toI_nth] at hcA hcB
                    obtain ⟨lx, hlx⟩ : ∃ l, at' L' x = l := ⟨_, rfl⟩
                    obtain ⟨ld, hld⟩ : ∃ l, at' L' d = l := ⟨_, rfl⟩
                    rw [hlx] at hcA
                    rw [hld] at hcB
                    have HLX := Lib.hid hlx
                    have HLD := Lib.hid hld
                    have HYC := Lib.hid hycon
                    clear hx hlx hld hycon
                    rcases Nat.lt_trichotomy lx ld with hcmp | hcmp | hcmp
                    · have hxd : x ≠ d := fun e => by subst e; have := HLX.out; have := HLD.out; omega
                      have hdx : d ≠ x := fun e => hxd e.symm
                      have hnb : b ≠ gq := by omega
                      have HSK := Lib.hid (LInv.sink HS.out HRd.out.1 (d := d) (x := x) (by rw [HL.out]; exact hdn) (by rw [HL.out]; exact hyl) HYC.out (by rw [HLX.out, HLD.out]; exact hcmp))
                      rw [HLX.out] at HSK
                      go_wp2_with fail
                      go_quiet (fail)
                      go_wp2_with fail
                      go_quiet (fail)
                      go_wp2_with fail
                      go_roundg (2 - (i + 1))
                      case measure => omega
                      case rel =>
                        have hse := fun q q' => ((HEd.out.drewN q).setCell (p := ⟨b, d, none⟩) (Nat.le_of_eq HSZ.out) hRb (.int .i64 (lx : Int))).drewN q'
                        have hst := fun q q' => ((HOd.out.drewN q).put HLn.out d hdn (lx : Int)).drewN q'
                        rw [← toI_set] at hst
                        refine ⟨L'.set d lx, true, i + 1, by omega, by omega, rfl, by go_num, hse _ _, hst _ _, fun j hj => ?_, HSK.out.1, fun _ => ?_, fun h => by cases h⟩
                        · have := HCd.out j hj
                          simpa [World.cell?_setCell_other, hnb] using this
                        · have h1 := HSK.out.2
                          cases ch' with
                          | true => have := HRd.out.2.1 rfl; omega
                          | false => rw [(HRd.out.2.2 rfl).1] at h1 ⊢; exact h1
                    · subst hcmp
                      go_wp2_with fail
                      go_quiet (fail)
                      go_wp2_with fail
                      go_quiet (fail)
                      go_wp2_with fail
                      go_roundg (2 - (i + 1))
                      case measure => omega
                      case rel =>
                        obtain ⟨r1, r2, r3⟩ := HRd.out
                        refine ⟨L', ch', i + 1, by omega, by omega, rfl, by go_num, HEd.out.drewN _, HOd.out.drewN _, HCd.out, r1, r2, fun h => ⟨(r3 h).1, (r3 h).2.1, fun k hk => ?_⟩⟩
                        by_cases e : k = i
                        · subst e; rw [HX.out, HLX.out, HLD.out]
                        · exact (r3 h).2.2 k (by omega)
                    · have hxd : x ≠ d := fun e => by subst e; have := HLX.out; have := HLD.out; omega
                      have hdx : d ≠ x := fun e => hxd e.symm
                      have hnb : b ≠ gq := by omega
                      have HSK := Lib.hid (LInv.sink HS.out HRd.out.1 (d := x) (x := d) (by rw [HL.out]; exact hyl) (by rw [HL.out]; exact hdn) ((Con.per HS.out).symm HYC.out) (by rw [HLX.out, HLD.out]; exact hcmp))
                      rw [HLD.out] at HSK
                      go_wp2_with fail
                      go_quiet (fail)
                      go_wp2_with fail
                      go_quiet (fail)
                      go_wp2_with fail
                      go_roundg (2 - (i + 1))
                      case measure => omega
                      case rel =>
                        have hse := fun q => ((HEd.out.drewN q).setCell (p := ⟨b, x, none⟩) (Nat.le_of_eq HSZ.out) hRb (.int .i64 (ld : Int)))
                        have hst := fun q => ((HOd.out.drewN q).put HLn.out x hyl (ld : Int))
                        rw [← toI_set] at hst
                        refine ⟨L'.set x ld, true, i + 1, by omega, by omega, rfl, by go_num, hse _, hst _, fun j hj => ?_, HSK.out.1, fun _ => ?_, fun h => by cases h⟩
                        · have := HCd.out j hj
                          simpa [World.cell?_setCell_other, hnb] using this
                        · have h1 := HSK.out.2
                          cases ch' with
                          | true => have := HRd.out.2.1 rfl; omega
                          | false => rw [(HRd.out.2.2 rfl).1] at h1 ⊢; exact h1
                  · obtain rfl : i = 2 := by omega
                    go_wp2_with fail
                    go_roundg (n - (d + 1))
                    case measure => omega
                    case rel =>
                      obtain ⟨r1, r2, r3⟩ := HRd.out
                      refine ⟨L', ch', d + 1, by omega, by omega, rfl, by go_num, HEd.out, HOd.out, r1, r2, fun h => ⟨(r3 h).1, fun e he => ?_, trivial⟩⟩
                      by_cases e' : e = d
                      · subst e'
                        have h0 := (r3 h).2.2 0 (by omega)
                        have h1 := (r3 h).2.2 1 (by omega)
                        rw [HYS.out.1] at h0
                        rw [HYS.out.2] at h1
                        rw [HY1.out, HY2.out]
                        exact ⟨h0, h1⟩
                      · exact (r3 h).2.1 e (by omega)
            · obtain rfl : d = n := by omega
              go_wp2_with fail
              go_roundg g1
              case measure => omega
              case rel =>
                obtain ⟨r1, r2, r3⟩ := HRI.out
                refine ⟨L, ch, rfl, HEb.out, HOb.out, r1, fun h => by have := r2 h; omega, fun h e he => ?_⟩
                rw [HL.out] at he
                exact (r3 h).2.1 e he
        | false =>
          have HLI := Lib.hid hli
          have HCl := Lib.hid (hch2 rfl)
          have HEa := Lib.hid he1
          have HOa := Lib.hid ho
          clear he1 ho hli hch1 hch2
          have HLn : Hid ((toI L0).length = n) := Lib.hid (by rw [toI_length, HLI.out.len, HL.out])
          go_wp2_with (refine wpList_make_full _ rfl _ _ 25 rfl wr.heap.size 3 i0 (.int .i64 0) 1 Try.underlying25 hi hz0 hz1 .i64 .i64 (n : Int) (n : Int) n rfl rfl rfl rfl ?q5 ?q6 (Nat.le_refl _) ?_)
          case q5 => rw [hz2]; omega
          case q6 => unfold maxLen; omega
          intro w2 ho2 hg2
          have hown := OwnI.madeAt (R := R) (HEa.out.inv.none_of_ge (Nat.le_refl _)) ho2
          have HE2 := Lib.hid (HEa.out.grown hg2 (by simp))
          have HOn := Lib.hid (HOa.out.kept hg2 (Or.inr (by simp [Value.ownBlock])))
          have hltb : b < wr.heap.size := (HOa.out.lt b rfl).2
          have hRc : R wr.heap.size = none := HEa.out.inv.none_of_ge (Nat.le_refl _)
          obtain ⟨c, hcw⟩ : ∃ c, wr.heap.size = c := ⟨_, rfl⟩
          rw [hcw] at hown hltb hRc ⊢
          have HOw := Lib.hid hown
          clear hown ho2 hg2 hcw
          go_wp2_with fail
          go_loopg [10, 85] n (fun g v10 v85 wr => ∃ (k : Nat) (O : List Int), k ≤ n ∧ n - k ≤ g ∧ v10 = .int .i64 (((partsGo s k).2 : Nat) : Int) ∧ v85 = .int .i64 (k : Int) ∧ Ev R w0 R wr ∧ OwnI R b 3 wr (.slice (some ⟨b, 0, none⟩) n n) (toI L0) ∧ OwnI R c 3 wr (.slice (some ⟨c, 0, none⟩) n n) O ∧ O.length = n ∧ ∀ j, j < k → nth O j = nth (partsL s) j)
          case atStart => exact ⟨0, _, by omega, by omega, rfl, rfl, HE2.out, HOn.out, HOw.out, by simp, fun j hj => absurd hj (Nat.not_lt_zero _)⟩
          case round =>
            obtain ⟨k, O, hk, hg, rfl, rfl, he, hol, hoo, hlo, hall⟩ := hrel
            have HEb := Lib.hid he
            have HOl := Lib.hid hol
            have HOo := Lib.hid hoo
            have HLo := Lib.hid hlo
            have HAl := Lib.hid hall
            clear he hol hoo hlo hall
            have hcb := HCnt.out k (by rw [HL.out]; exact hk)
            have hcb : (partsGo s k).2 ≤ k := hcb
            obtain ⟨q, hq⟩ : ∃ q, (partsGo s k).2 = q := ⟨_, rfl⟩
            rw [hq] at hcb ⊢
            have HQ := Lib.hid hq
            clear hq
            by_cases hkn : k < n
            · obtain ⟨_, e1, _, _, hcA, _⟩ := HOl.out.headAt HLn.out (i := k) hkn
              cases e1
              rw [toI_nth] at hcA
              obtain ⟨_, e1, _, _, hcB, hzB⟩ := HOo.out.headAt HLo.out (i := k) hkn
              cases e1
              have hbc : b ≠ c := by omega
              rcases HLast.out L0 HLI.out HCl.out k (by rw [HL.out]; exact hkn) with ⟨e1, e2, e3⟩ | ⟨e1, e2, e3⟩
              · rw [e1] at hcA
                have hst := HOo.out.put HLo.out k hkn (q : Int)
                have HSE := Lib.hid (HEb.out.setCell (p := ⟨c, k, none⟩) (show w0.heap.size ≤ c by have := HSZ.out; omega) hRc (.int .i64 (q : Int)))
                have HSL' := Lib.hid (HOl.out.setCell (a := ⟨c, k, none⟩) (fun e => hbc (by cases e; rfl)) (.int .i64 (q : Int)))
                have HST := Lib.hid hst
                have H2 := Lib.hid e2
                have H3 := Lib.hid e3
                have heq : ((k : Int) == (k : Int)) = true := by simp
                clear hst e1 e2 e3
                go_wp2_with fail
                go_roundg (n - (k + 1))
                case measure => omega
                case rel =>
                  refine ⟨k + 1, O.set k (q : Int), by omega, by omega, by rw [H3.out, HQ.out]; go_num, by go_num, HSE.out, HSL'.out, HST.out, by rw [List.length_set]; exact HLo.out, fun j hj => ?_⟩
                  rw [nth_set (by rw [HLo.out]; exact hkn)]
                  by_cases e : k = j
                  · subst e; rw [if_pos rfl, H2.out, HQ.out]
                  · rw [if_neg e]; exact HAl.out j (by omega)
              · obtain ⟨l, hl⟩ : ∃ l, at' L0 k = l := ⟨_, rfl⟩
                rw [hl] at hcA e1 e2
                obtain ⟨_, e4, _, _, hcC, _⟩ := HOo.out.headAt HLo.out (i := l) (by omega)
                cases e4
                rw [HAl.out l e1] at hcC
                have hst := HOo.out.put HLo.out k hkn (nth (partsL s) l)
                have HSE := Lib.hid (HEb.out.setCell (p := ⟨c, k, none⟩) (show w0.heap.size ≤ c by have := HSZ.out; omega) hRc (.int .i64 (nth (partsL s) l)))
                have HSL' := Lib.hid (HOl.out.setCell (a := ⟨c, k, none⟩) (fun e => hbc (by cases e; rfl)) (.int .i64 (nth (partsL s) l)))
                have HST := Lib.hid hst
                have H2 := Lib.hid e2
                have H3 := Lib.hid e3
                have heq : ((l : Int) == (k : Int)) = false := by rw [beq_eq_false_iff_ne]; omega
                clear hst e2 e3 hl
                go_wp2_with fail
                go_roundg (n - (k + 1))
                case measure => omega
                case rel =>
                  refine ⟨k + 1, O.set k (nth (partsL s) l), by omega, by omega, by rw [H3.out, HQ.out], by go_num, HSE.out, HSL'.out, HST.out, by rw [List.length_set]; exact HLo.out, fun j hj => ?_⟩
                  rw [nth_set (by rw [HLo.out]; exact hkn)]
                  by_cases e : k = j
                  · subst e; rw [if_pos rfl, H2.out]
                  · rw [if_neg e]; exact HAl.out j (by omega)
            · obtain rfl : k = n := by omega
              go_wp2_with fail
              go_ret
              refine ⟨_, rfl, HE0.out.trans HEb.out, ?_⟩
              have : O = partsL s := ext_nth (by rw [HLo.out, HPL.out, HL.out]) fun j hj => HAl.out j (by rw [← HLo.out]; exact hj)
              rw [← this]
              exact HOo.out.mono (by omega)

end Go.Proofs.Ytnbecpeiodcohaa
