/- What every walk of this seat leans on: the registry of blocks that are never written by a client, the world's evolution, lists of integers in memory. Conditions: none. -/
import Derived.WalkKit
import Derived.WalkSpells
import Derived.WalkLawsBesides
import Derived.Lib.Hide
import Derived.Deep.Draws
namespace Go.Proofs.Ytnbecpeiodcohaa
open Go.RowKit
set_option linter.unusedVariables false

/-- a permutation of 0 .. n - 1 -/
def IsPerm (s : List Nat) : Prop := s.Nodup ∧ ∀ x, x ∈ s → x < s.length
def toI (s : List Nat) : List Int := s.map fun (x : Nat) => (x : Int)
def at' (s : List Nat) (i : Nat) : Nat := s.getD i 0
def nth (xs : List Int) (i : Nat) : Int := xs.getD i 0
/-- who goes there -/
def invGo (s : List Nat) (k : Nat) : List Nat := (List.range k).foldl (fun l i => l.set (at' s i) i) (List.replicate s.length 0)
def invL (s : List Nat) : List Nat := invGo s s.length
def orbitGo (s : List Nat) (i : Nat) : Nat → Nat → List Nat
  | 0, _ => []
  | f + 1, x => if x = i then [] else x :: orbitGo s i f (at' s x)
def orbitL (s : List Nat) (i : Nat) : List Nat := i :: orbitGo s i s.length (at' s i)
def nameStep (s : List Nat) (st : List Int × Nat) (i : Nat) : List Int × Nat :=
  if 0 ≤ st.1.getD i (-1) then st else ((orbitL s i).foldl (fun l x => l.set x (st.2 : Int)) st.1, st.2 + 1)
def namesGo (s : List Nat) (k : Nat) : List Int × Nat := (List.range k).foldl (nameStep s) (List.replicate s.length (-1), 0)
def namesL (s : List Nat) : List Int := (namesGo s s.length).1
def sizeStep (l : List Int) (k : Int) : List Int :=
  let m := if k = l.length then l ++ [0] else l
  m.set k.toNat (m.getD k.toNat 0 + 1)
def sizesL (s : List Nat) : List Int := (namesL s).foldl sizeStep []
def phiL (s : List Nat) : List Nat := (List.range s.length).map fun d => at' s (d ^^^ 1)

/-- a map's list, root and count, as New lets them by -/
def MapOk (s : List Nat) (root lone : Int) : Prop := s.length % 2 = 0 ∧ s.length ≤ 131073 ∧ 0 ≤ lone ∧ lone ≤ 65536 ∧ ((s.length = 0 ∧ root = -1) ∨ (0 ≤ root ∧ root < s.length))

/-- what a block is, once and for all: just so; a permutation; a map -/
abbrev Kind := Obj ⊕ List Nat ⊕ (List Nat × Int × Int)
abbrev Reg := Nat → Option Kind

/-- a list of integers in blocks that stay as they are -/
def FixI (R : Reg) (v : Value) (xs : List Int) : Prop :=
  ∃ a cap, v = .slice a xs.length cap ∧ xs.length ≤ cap ∧ cap ≤ maxLen ∧ ∀ i, i < xs.length → ∃ b off c T f, a = some ⟨b, off, none⟩ ∧ R b = some (.inl (.cells c T f)) ∧ c[off + i]? = some (.int .i64 (nth xs i))

def nilS : Value := .slice none 0 0

/-- the memo of an orbit's names -/
def NamesOk (R : Reg) (s : List Nat) (d : Int) (vof vsz : Value) : Prop :=
  (d = 0 ∧ vof = nilS ∧ vsz = nilS) ∨ (d = 1 ∧ FixI R vof (namesL s) ∧ FixI R vsz (sizesL s))

def KindOk (R : Reg) (w : World) (k : Nat) : Kind → Prop
  | .inl o => w.heap[k]? = some o
  | .inr (.inl s) => IsPerm s ∧ s.length ≤ 4194304 ∧ ∃ vto T d vfrom, w.heap[k]? = some (.cells #[vto, .int .u32 d, .int .i32 0, .int .u32 0, vfrom] T (0, 0)) ∧ FixI R vto (toI s) ∧
      ((d = 0 ∧ vfrom = nilS) ∨ (d = 1 ∧ FixI R vfrom (toI (invL s))))
  | .inr (.inr (s, root, lone)) => IsPerm s ∧ s.length ≤ 4194304 ∧ MapOk s root lone ∧ ∃ bp bq T d e v1 v2 u1 u2,
      w.heap[k]? = some (.cells #[.pointer (some ⟨bp, 0, none⟩), .int .u32 d, .int .i32 0, .int .u32 0, v1, v2, .pointer (some ⟨bq, 0, none⟩), .int .u32 e, .int .i32 0, .int .u32 0, u1, u2, .int .i64 root, .int .i64 lone] T (0, 0)) ∧
      R bp = some (.inr (.inl s)) ∧ R bq = some (.inr (.inl (phiL s))) ∧ NamesOk R s d v1 v2 ∧ NamesOk R (phiL s) e u1 u2

def Inv (R : Reg) (w : World) : Prop := ∀ k r, R k = some r → KindOk R w k r

/-- the world goes on: what no one has registered is as it was; what is registered stays what it is -/
structure Ev (R : Reg) (w : World) (R' : Reg) (w' : World) : Prop where
  os : w'.os = w.os
  tape : w'.tape = w.tape
  output : w'.output = w.output
  size : w.heap.size ≤ w'.heap.size
  block : ∀ k, k < w.heap.size → R k = none → w'.heap[k]? = w.heap[k]?
  reg : ∀ k r, R k = some r → R' k = some r
  free : ∀ k, k < w.heap.size → R k = none → R' k = none
  inv : Inv R' w'

theorem FixI.mono {R R' : Reg} (h : ∀ k r, R k = some r → R' k = some r) {v : Value} {xs : List Int} (hf : FixI R v xs) : FixI R' v xs := by
  obtain ⟨a, cap, h1, h2, h3, h4⟩ := hf
  refine ⟨a, cap, h1, h2, h3, fun i hi => ?_⟩
  obtain ⟨b, off, c, T, f, e1, e2, e3⟩ := h4 i hi
  exact ⟨b, off, c, T, f, e1, h _ _ e2, e3⟩

theorem NamesOk.mono {R R' : Reg} (h : ∀ k r, R k = some r → R' k = some r) {s : List Nat} {d : Int} {v u : Value} (hn : NamesOk R s d v u) : NamesOk R' s d v u := by
  rcases hn with hn | ⟨h1, h2, h3⟩
  · exact Or.inl hn
  · exact Or.inr ⟨h1, h2.mono h, h3.mono h⟩

theorem KindOk.lt {R : Reg} {w : World} {k : Nat} {r : Kind} (h : KindOk R w k r) : k < w.heap.size := by
  have key : ∀ o, w.heap[k]? = some o → k < w.heap.size := fun o ho => by
    rcases Nat.lt_or_ge k w.heap.size with h' | h'
    · exact h'
    · rw [Array.getElem?_eq_none h'] at ho; cases ho
  rcases r with o | s | ⟨s, root, lone⟩
  · exact key _ h
  · obtain ⟨_, _, _, _, _, _, ho, _⟩ := h; exact key _ ho
  · obtain ⟨_, _, _, _, _, _, _, _, _, _, _, _, ho, _⟩ := h; exact key _ ho

/-- a kind stays good where the registry grows and its own block is as it was -/
theorem KindOk.mono {R R' : Reg} {w w' : World} {k : Nat} {r : Kind} (h : KindOk R w k r) (hr : ∀ k r, R k = some r → R' k = some r) (hb : w'.heap[k]? = w.heap[k]?) : KindOk R' w' k r := by
  rcases r with o | s | ⟨s, root, lone⟩
  · exact hb.trans h
  · obtain ⟨h1, h2, vto, T, d, vf, ho, h3, h4⟩ := h
    refine ⟨h1, h2, vto, T, d, vf, hb.trans ho, h3.mono hr, ?_⟩
    rcases h4 with h4 | ⟨h4, h5⟩
    · exact Or.inl h4
    · exact Or.inr ⟨h4, h5.mono hr⟩
  · obtain ⟨h1, h2, h2', bp, bq, T, d, e, v1, v2, u1, u2, ho, h3, h4, h5, h6⟩ := h
    exact ⟨h1, h2, h2', bp, bq, T, d, e, v1, v2, u1, u2, hb.trans ho, hr _ _ h3, hr _ _ h4, h5.mono hr, h6.mono hr⟩

theorem Ev.refl {R : Reg} {w : World} (h : Inv R w) : Ev R w R w := ⟨rfl, rfl, rfl, Nat.le_refl _, fun _ _ _ => rfl, fun _ _ h => h, fun _ _ h => h, h⟩

theorem Ev.trans {R R1 R2 : Reg} {w w1 w2 : World} (h : Ev R w R1 w1) (k : Ev R1 w1 R2 w2) : Ev R w R2 w2 :=
  ⟨k.os.trans h.os, k.tape.trans h.tape, k.output.trans h.output, Nat.le_trans h.size k.size,
    fun i hi hr => (k.block i (Nat.lt_of_lt_of_le hi h.size) (h.free i hi hr)).trans (h.block i hi hr),
    fun i r hr => k.reg _ _ (h.reg _ _ hr), fun i hi hr => k.free i (Nat.lt_of_lt_of_le hi h.size) (h.free i hi hr), k.inv⟩

theorem Inv.alloc {R : Reg} {w : World} (h : Inv R w) (o : Obj) : Inv R (w.alloc o) :=
  fun k r hr => (h k r hr).mono (fun _ _ h => h) (Below.heap_alloc _ _ _ (h k r hr).lt)

theorem Inv.drew {R : Reg} {w : World} (h : Inv R w) : Inv R w.drew := fun k r hr => (h k r hr).mono (fun _ _ h => h) rfl

theorem Inv.setCell {R : Reg} {w : World} (h : Inv R w) {p : Addr} (hp : R p.block = none) (u : Value) : Inv R (w.setCell p u) :=
  fun k r hr => (h k r hr).mono (fun _ _ h => h) (Below.heap_setCell _ _ _ _ (fun e => by rw [e, hp] at hr; cases hr))

theorem Inv.none_of_ge {R : Reg} {w : World} (h : Inv R w) {k : Nat} (hk : w.heap.size ≤ k) : R k = none := by
  cases hr : R k with
  | none => rfl
  | some r => have := (h k r hr).lt; omega

theorem Ev.alloc {R R1 : Reg} {w w1 : World} (h : Ev R w R1 w1) (o : Obj) : Ev R w R1 (w1.alloc o) :=
  h.trans ⟨rfl, rfl, rfl, by simp, fun k hk _ => Below.heap_alloc _ _ _ hk, fun _ _ h => h, fun _ _ h => h, h.inv.alloc o⟩

theorem Ev.drew {R R1 : Reg} {w w1 : World} (h : Ev R w R1 w1) : Ev R w R1 w1.drew :=
  h.trans ⟨rfl, rfl, rfl, Nat.le_refl _, fun _ _ _ => rfl, fun _ _ h => h, fun _ _ h => h, h.inv.drew⟩

/-- a store into a block of the call's own that nobody has registered -/
theorem Ev.setCell {R R1 : Reg} {w w1 : World} (h : Ev R w R1 w1) {p : Addr} (hb : w.heap.size ≤ p.block) (hp : R1 p.block = none) (u : Value) : Ev R w R1 (w1.setCell p u) :=
  ⟨h.os, h.tape, h.output, by simpa using h.size, fun k hk hr => by rw [Below.heap_setCell _ _ _ _ (by omega)]; exact h.block k hk hr, h.reg, h.free, h.inv.setCell hp u⟩

/-- behind append and make -/
theorem Ev.grown {R R1 : Reg} {w w1 w2 : World} {row : Option Nat} (h : Ev R w R1 w1) (hg : w1.grownBy w2 row) (hr : ∀ k, row = some k → w.heap.size ≤ k ∧ R1 k = none) : Ev R w R1 w2 :=
  ⟨hg.os.trans h.os, hg.tape.trans h.tape, hg.output.trans h.output, Nat.le_trans h.size hg.size,
    fun k hk hn => (hg.block k (Nat.lt_of_lt_of_le hk h.size) (fun e => by have := hr k e.symm; omega)).trans (h.block k hk hn), h.reg, h.free,
    fun k r hk => (h.inv k r hk).mono (fun _ _ h => h) (hg.block k (h.inv k r hk).lt (fun e => by rw [(hr k e.symm).2] at hk; cases hk))⟩

/-- where nothing is registered the world goes on below a number of blocks -/
theorem Ev.of_below {R : Reg} {w w1 : World} (hI : Inv R w) (h : Below w.heap.size w w1) : Ev R w R w1 :=
  ⟨h.os, h.tape, h.output, h.size, fun k hk _ => h.block k hk, fun _ _ h => h, fun _ _ h => h,
    fun k r hr => (hI k r hr).mono (fun _ _ h => h) (h.block k (hI k r hr).lt)⟩

/-- what no one registers: all that a law's call can say in the end -/
def noReg : Reg := fun _ => none
theorem Inv.noReg (w : World) : Inv noReg w := fun k r h => by cases h
theorem Ev.below {R : Reg} {w w1 : World} (h : Ev noReg w R w1) : Below w.heap.size w w1 := ⟨h.os, h.tape, h.output, h.size, fun k hk => h.block k hk rfl⟩

theorem Ev.cell {R R1 : Reg} {w w1 : World} (h : Ev R w R1 w1) {b o : Nat} (hb : b < w.heap.size) (hr : R b = none) : w1.cell? ⟨b, o, none⟩ = w.cell? ⟨b, o, none⟩ :=
  World.cell?_of_block (w := w) (h.block b hb hr)
theorem Ev.frozen {R R1 : Reg} {w w1 : World} (h : Ev R w R1 w1) {b o : Nat} (hb : b < w.heap.size) (hr : R b = none) : w1.frozen? ⟨b, o, none⟩ = w.frozen? ⟨b, o, none⟩ :=
  World.frozen?_of_block (w := w) (h.block b hb hr)

theorem lt_of_block {w : World} {b : Nat} {o : Obj} (h : w.heap[b]? = some o) : b < w.heap.size := by
  rcases Nat.lt_or_ge b w.heap.size with h' | h'
  · exact h'
  · rw [Array.getElem?_eq_none h'] at h; cases h

theorem lt_of_cell {w : World} {b o : Nat} {v : Value} (h : w.cell? ⟨b, o, none⟩ = some v) : b < w.heap.size := by
  rcases Nat.lt_or_ge b w.heap.size with h' | h'
  · exact h'
  · simp [World.cell?, Array.getElem?_eq_none h'] at h

/-- a block of the call's own becomes one that stays as it is (or a permutation, or a map) -/
def Reg.put (R : Reg) (b : Nat) (r : Kind) : Reg := fun k => if k = b then some r else R k
theorem Reg.put_same (R : Reg) (b : Nat) (r : Kind) : R.put b r b = some r := by simp [Reg.put]
theorem Reg.put_keeps {R : Reg} {b : Nat} (r : Kind) (hb : R b = none) : ∀ k x, R k = some x → R.put b r k = some x := fun k x h => by
  unfold Reg.put
  split
  · rename_i e; rw [e, hb] at h; cases h
  · exact h

theorem Ev.put {R R1 : Reg} {w w1 : World} (h : Ev R w R1 w1) {b : Nat} (r : Kind) (hb : w.heap.size ≤ b) (hn : R1 b = none) (hk : KindOk R1 w1 b r) : Ev R w (R1.put b r) w1 :=
  ⟨h.os, h.tape, h.output, h.size, h.block, fun k x hx => Reg.put_keeps r hn k x (h.reg k x hx), fun k hk hr => by
      unfold Reg.put
      rw [if_neg (by omega)]
      exact h.free k hk hr,
    fun k x hx => by
      unfold Reg.put at hx
      split at hx
      · rename_i e
        cases hx
        subst e
        exact hk.mono (Reg.put_keeps _ hn) rfl
      · exact (h.inv k x hx).mono (Reg.put_keeps r hn) rfl⟩

/-- a list of integers, wherever it lies -/
def Ints (w : World) (v : Value) (xs : List Int) : Prop :=
  ∃ a cap, v = .slice a xs.length cap ∧ xs.length ≤ cap ∧ cap ≤ maxLen ∧ ∀ i, i < xs.length → ∃ b off, a = some ⟨b, off, none⟩ ∧ w.cell? ⟨b, off + i, none⟩ = some (.int .i64 (nth xs i))

theorem FixI.ints {R : Reg} {v : Value} {xs : List Int} (h : FixI R v xs) {w : World} (hI : Inv R w) : Ints w v xs := by
  obtain ⟨a, cap, h1, h2, h3, h4⟩ := h
  refine ⟨a, cap, h1, h2, h3, fun i hi => ?_⟩
  obtain ⟨b, off, c, T, f, e1, e2, e3⟩ := h4 i hi
  have hb : w.heap[b]? = some (.cells c T f) := hI _ _ e2
  exact ⟨b, off, e1, by simp [World.cell?, hb, e3]⟩

theorem Ints.nil (w : World) : Ints w nilS [] := ⟨none, 0, rfl, Nat.le_refl _, by simp [maxLen], fun i hi => by simp at hi⟩

/-- a list of integers in a block that no one has registered, or of no element: it is read as it was in every later world -/
def FreeI (R : Reg) (w : World) (v : Value) (xs : List Int) : Prop :=
  Ints w v xs ∧ (xs = [] ∨ ∃ b off n cap, v = .slice (some ⟨b, off, none⟩) n cap ∧ R b = none)

theorem FreeI.ev {R R1 : Reg} {w w1 : World} {v : Value} {xs : List Int} (h : FreeI R w v xs) (he : Ev R w R1 w1) : FreeI R1 w1 v xs := by
  obtain ⟨⟨a, cap, h1, h2, h3, h4⟩, hf⟩ := h
  rcases hf with rfl | ⟨b, off, n, cap', hv, hb⟩
  · exact ⟨⟨a, cap, h1, h2, h3, fun i hi => by simp at hi⟩, Or.inl rfl⟩
  · rw [h1] at hv
    cases hv
    rcases xs with _ | ⟨x, xs⟩
    · exact ⟨⟨_, cap, h1, h2, h3, fun i hi => by simp at hi⟩, Or.inl rfl⟩
    · have hlt : b < w.heap.size := by
        obtain ⟨b', off', e, hc⟩ := h4 0 (by simp)
        cases e
        exact lt_of_cell hc
      refine ⟨⟨_, cap, h1, h2, h3, fun i hi => ?_⟩, Or.inr ⟨b, off, _, cap, h1, he.free b hlt hb⟩⟩
      obtain ⟨b', off', e, hc⟩ := h4 i hi
      cases e
      exact ⟨b, off, rfl, (he.cell hlt hb).trans hc⟩

theorem FreeI.of_fix {R : Reg} {v : Value} {xs : List Int} (h : FixI R v xs) {w : World} (hI : Inv R w) : Ints w v xs := h.ints hI

/-- a slice of integers of the call's own, on which one may append and into which one may store -/
def OwnI (R : Reg) (B : Nat) (E : TypeId) (w : World) (v : Value) (xs : List Int) : Prop :=
  w.ownsRow B E 1 v xs.length (xs.map (Value.int .i64)) ∧ ∀ k, v.ownBlock = some k → R k = none

theorem OwnI.nil (R : Reg) (B : Nat) (E : TypeId) (w : World) : OwnI R B E w nilS [] := ⟨World.ownsRow_nil w B E 1, fun k h => by simp [nilS, Value.ownBlock] at h⟩

theorem OwnI.mono {R : Reg} {B B' : Nat} {E : TypeId} {w : World} {v : Value} {xs : List Int} (h : OwnI R B E w v xs) (hB : B' ≤ B) : OwnI R B' E w v xs := by
  obtain ⟨⟨h1, h2⟩, h3⟩ := h
  refine ⟨⟨h1, ?_⟩, h3⟩
  rcases h2 with h2 | ⟨g, cap, cur, hv, hg, r⟩
  · exact Or.inl h2
  · exact Or.inr ⟨g, cap, cur, hv, by omega, r⟩

theorem OwnI.ev {R R1 : Reg} {B : Nat} {E : TypeId} {w w1 : World} {v : Value} {xs : List Int} (h : OwnI R B E w v xs) (he : Ev R w R1 w1) : OwnI R1 B E w1 v xs := by
  obtain ⟨⟨h1, h2⟩, h3⟩ := h
  rcases h2 with h2 | ⟨g, cap, cur, hv, hg, hh, r⟩
  · exact ⟨⟨h1, Or.inl h2⟩, fun k hk => by rw [h2.1] at hk; simp [Value.ownBlock] at hk⟩
  · have hn : R g = none := h3 g (by rw [hv]; rfl)
    refine ⟨⟨h1, Or.inr ⟨g, cap, cur, hv, hg, by rw [he.block g (lt_of_block hh) hn]; exact hh, r⟩⟩, fun k hk => ?_⟩
    rw [hv] at hk
    cases hk
    exact he.free g (lt_of_block hh) hn

theorem OwnI.lt {R : Reg} {B : Nat} {E : TypeId} {w : World} {v : Value} {xs : List Int} (h : OwnI R B E w v xs) : ∀ k, v.ownBlock = some k → B ≤ k ∧ k < w.heap.size := h.1.lt

theorem OwnI.ints {R : Reg} {B : Nat} {E : TypeId} {w : World} {v : Value} {xs : List Int} (h : OwnI R B E w v xs) : Ints w v xs := by
  obtain ⟨⟨h1, h2⟩, h3⟩ := h
  rcases h2 with ⟨h2, hn⟩ | ⟨g, cap, cur, hv, hg, hh, hn, hm, hs, ht⟩
  · have : xs = [] := List.length_eq_zero_iff.1 hn
    subst this
    exact h2 ▸ Ints.nil w
  · refine ⟨_, cap, hv, hn, hm, fun i hi => ⟨g, 0, rfl, ?_⟩⟩
    have hx : (xs.map (Value.int .i64))[i]? = some (.int .i64 (nth xs i)) := by simp [nth, hi]
    rw [← ht] at hx
    simp only [World.cell?, hh, Nat.zero_add]
    rw [List.getElem?_take] at hx
    split at hx
    · simpa using hx
    · cases hx

theorem OwnI.free {R : Reg} {B : Nat} {E : TypeId} {w : World} {v : Value} {xs : List Int} (h : OwnI R B E w v xs) : FreeI R w v xs := by
  refine ⟨h.ints, ?_⟩
  obtain ⟨⟨h1, h2⟩, h3⟩ := h
  rcases h2 with ⟨h2, hn⟩ | ⟨g, cap, cur, hv, hg, r⟩
  · exact Or.inl (List.length_eq_zero_iff.1 hn)
  · exact Or.inr ⟨g, 0, _, cap, hv, h3 g (by rw [hv]; rfl)⟩

/-- an own row is laid by: it stays as it is from now on -/
theorem OwnI.fix {R R1 : Reg} {w w1 : World} {B : Nat} {E : TypeId} {v : Value} {xs : List Int} (he : Ev R w R1 w1) (hB : w.heap.size ≤ B) (h : OwnI R1 B E w1 v xs) :
    ∃ R2, Ev R w R2 w1 ∧ FixI R2 v xs ∧ (∀ k r, R1 k = some r → R2 k = some r) ∧ (∀ k, R1 k = none → v.ownBlock ≠ some k → R2 k = none) := by
  have hi := h.ints
  obtain ⟨⟨h1, h2⟩, h3⟩ := h
  rcases h2 with ⟨h2, hn⟩ | ⟨g, cap, cur, hv, hg, hh, hn, hm, hs, ht⟩
  · have : xs = [] := List.length_eq_zero_iff.1 hn
    subst this
    refine ⟨R1, he, ⟨none, 0, h2, Nat.le_refl _, by simp [maxLen], fun i hi => by simp at hi⟩, fun _ _ h => h, fun _ h _ => h⟩
  · have hnn := h3 g (by rw [hv]; rfl)
    refine ⟨R1.put g (.inl (.cells cur E (0, 0))), he.put _ (by omega) hnn hh, ⟨_, cap, hv, hn, hm, fun i hi => ?_⟩, Reg.put_keeps _ hnn, fun k hk hne => ?_⟩
    · refine ⟨g, 0, cur, E, (0, 0), rfl, Reg.put_same _ _ _, ?_⟩
      have hx : (xs.map (Value.int .i64))[i]? = some (.int .i64 (nth xs i)) := by simp [nth, hi]
      rw [← ht, List.getElem?_take] at hx
      split at hx
      · simpa using hx
      · cases hx
    · unfold Reg.put
      rw [if_neg (fun e => hne (by rw [hv, e]; rfl))]
      exact hk

theorem OwnI.kept {R : Reg} {B : Nat} {E : TypeId} {w w1 : World} {row : Option Nat} {v : Value} {xs : List Int} (h : OwnI R B E w v xs) (hg : w.grownBy w1 row) (hne : v.ownBlock = none ∨ v.ownBlock ≠ row) : OwnI R B E w1 v xs :=
  ⟨h.1.kept hg hne, h.2⟩

theorem OwnI.alloc {R : Reg} {B : Nat} {E : TypeId} {w : World} {v : Value} {xs : List Int} (h : OwnI R B E w v xs) (o : Obj) : OwnI R B E (w.alloc o) v xs := ⟨h.1.alloc o, h.2⟩
theorem OwnI.drew {R : Reg} {B : Nat} {E : TypeId} {w : World} {v : Value} {xs : List Int} (h : OwnI R B E w v xs) : OwnI R B E w.drew v xs := h

theorem OwnI.setCell {R : Reg} {B : Nat} {E : TypeId} {w : World} {v : Value} {xs : List Int} (h : OwnI R B E w v xs) {a : Addr} (ha : v.ownBlock ≠ some a.block) (u : Value) : OwnI R B E (w.setCell a u) v xs := by
  obtain ⟨⟨h1, h2⟩, h3⟩ := h
  refine ⟨⟨h1, ?_⟩, h3⟩
  rcases h2 with h2 | ⟨g, cap, cur, hv, hg, hh, r⟩
  · exact Or.inl h2
  · refine Or.inr ⟨g, cap, cur, hv, hg, ?_, r⟩
    rw [Below.heap_setCell _ _ _ _ (fun e => ha (by rw [hv, ← e]; rfl))]
    exact hh

theorem FreeI.setCell {R : Reg} {w : World} {v : Value} {xs : List Int} (h : FreeI R w v xs) {a : Addr} (ha : v.ownBlock ≠ some a.block) (u : Value) : FreeI R (w.setCell a u) v xs := by
  obtain ⟨⟨a', cap, h1, h2, h3, h4⟩, hf⟩ := h
  refine ⟨⟨a', cap, h1, h2, h3, fun i hi => ?_⟩, hf⟩
  obtain ⟨b, off, e, hc⟩ := h4 i hi
  subst e
  refine ⟨b, off, rfl, ?_⟩
  rw [World.cell?_setCell_other _ _ _ _ (fun e => ha (by rw [h1, e]; rfl))]
  exact hc

theorem map_set_int (xs : List Int) (i : Nat) (y : Int) : (xs.map (Value.int .i64)).set i (.int .i64 y) = (xs.set i y).map (Value.int .i64) := by simp

/-- the slice's value, where there is an element -/
theorem OwnI.head {R : Reg} {B : Nat} {E : TypeId} {w : World} {v : Value} {xs : List Int} (h : OwnI R B E w v xs) {i : Nat} (hi : i < xs.length) :
    ∃ g cap, v = .slice (some ⟨g, 0, none⟩) xs.length cap ∧ B ≤ g ∧ R g = none ∧ w.cell? ⟨g, i, none⟩ = some (.int .i64 (nth xs i)) ∧ w.frozen? ⟨g, i, none⟩ = false := by
  have hI := h.ints
  obtain ⟨⟨h1, h2⟩, h3⟩ := h
  rcases h2 with ⟨h2, hn⟩ | ⟨g, cap, cur, hv, hg, hh, hn, hm, hs, ht⟩
  · omega
  · refine ⟨g, cap, hv, hg, h3 g (by rw [hv]; rfl), ?_, by simp [World.frozen?, hh]⟩
    obtain ⟨a', cap', e, _, _, h4⟩ := hI
    rw [hv] at e
    cases e
    obtain ⟨b, off, e, hc⟩ := h4 i hi
    cases e
    simpa using hc

/-- a store into one's own slice -/
theorem OwnI.store {R : Reg} {B : Nat} {E : TypeId} {w : World} {g cap : Nat} {xs : List Int} (h : OwnI R B E w (.slice (some ⟨g, 0, none⟩) xs.length cap) xs) (i : Nat) (hi : i < xs.length) (y : Int) :
    OwnI R B E (w.setCell ⟨g, i, none⟩ (.int .i64 y)) (.slice (some ⟨g, 0, none⟩) xs.length cap) (xs.set i y) := by
  have := (h.1.stored i (.int .i64 y)).1
  rw [map_set_int] at this
  refine ⟨?_, h.2⟩
  rw [List.length_set]
  exact this

/-- the same, the length by its own name -/
theorem OwnI.put {R : Reg} {B : Nat} {E : TypeId} {w : World} {g n cap : Nat} {xs : List Int} (h : OwnI R B E w (.slice (some ⟨g, 0, none⟩) n cap) xs) (hn : xs.length = n) (i : Nat) (hi : i < n) (y : Int) :
    OwnI R B E (w.setCell ⟨g, i, none⟩ (.int .i64 y)) (.slice (some ⟨g, 0, none⟩) n cap) (xs.set i y) := by
  subst hn
  exact h.store i hi y

theorem OwnI.headAt {R : Reg} {B : Nat} {E : TypeId} {w : World} {a : Option Addr} {n cap : Nat} {xs : List Int} (h : OwnI R B E w (.slice a n cap) xs) (hn : xs.length = n) {i : Nat} (hi : i < n) :
    ∃ g, a = some ⟨g, 0, none⟩ ∧ B ≤ g ∧ R g = none ∧ w.cell? ⟨g, i, none⟩ = some (.int .i64 (nth xs i)) ∧ w.frozen? ⟨g, i, none⟩ = false := by
  obtain ⟨g, cap', e, h1, h2, h3, h4⟩ := h.head (i := i) (by omega)
  cases e
  exact ⟨g, rfl, h1, h2, h3, h4⟩

theorem Ev.drewN {R R1 : Reg} {w w1 : World} (h : Ev R w R1 w1) (n : Nat) : Ev R w R1 (w1.drewN n) :=
  h.trans ⟨rfl, rfl, rfl, Nat.le_refl _, fun _ _ _ => rfl, fun _ _ h => h, fun _ _ h => h, fun k r hr => (h.inv k r hr).mono (fun _ _ h => h) rfl⟩

theorem ext_nth {xs ys : List Int} (h : xs.length = ys.length) (hk : ∀ j, j < xs.length → nth xs j = nth ys j) : xs = ys := by
  refine List.ext_getElem h fun i h1 h2 => ?_
  have := hk i h1
  simpa [nth, h1, h2] using this

theorem Ints.length_eq {w : World} {a : Option Addr} {n cap : Nat} {xs : List Int} (h : Ints w (.slice a n cap) xs) : n = xs.length := by
  obtain ⟨_, _, e, _⟩ := h; cases e; rfl

theorem Ints.open {w : World} {v : Value} {xs : List Int} (h : Ints w v xs) : ∃ a cap, v = .slice a xs.length cap ∧ Ints w (.slice a xs.length cap) xs := by
  have h' := h
  obtain ⟨a, cap, e, _⟩ := h
  subst e
  exact ⟨a, cap, rfl, h'⟩

/-- append to one's own row, and where the new value's row lies: the old row, or a new one -/
theorem run_append_where {P : Program} (w : World) (base : Nat) (t ty e : TypeId) (i : TypeInfo) (z : Value) (size bytes : Nat) (ht : P.underlying t = some (.slice e)) (hi : P.info? e = some i) (hz : i.zero = some z)
    (hsize : i.size = size) (hby : i.bytes = bytes) (hzs : z.cells.size = size) (hsz : 0 < size)
    (v : Value) (n : Nat) (xs : List Value) (hown : w.ownsRow base e size v n xs)
    (a : Addr) (m c : Nat) (news : List Value) (hl : news.length = m * size) (hnews : ∀ j u, news[j]? = some u → w.cell? (a.add j) = some u) (h1 : ∀ u ∈ news, u.oneCell' = true)
    (h63 : n + m ≤ maxLen) (hbytes : (n + m) * bytes ≤ 140737488355328) (hbase : base ≤ w.heap.size) :
    ∃ v' w', (Builtin.append_ #[t, t] ty #[v, .slice (some a) m c]).run P w = .ok v' w' ∧ w'.ownsRow base e size v' (n + m) (xs ++ news) ∧ w.grownBy w' v.ownBlock ∧
      ∀ k, v'.ownBlock = some k → v.ownBlock = some k ∨ w.heap.size ≤ k := by
  obtain ⟨v', w', hr, h2, h3, h4⟩ := run_append_own (P := P) w base t ty e i z size bytes ht hi hz hsize hby hzs hsz v n xs hown a m c news hl hnews h1 h63 hbytes hbase
  refine ⟨v', w', hr, h2, h3, fun k hk => ?_⟩
  have hsmall : n + m ≤ 9223372036854775807 := by simp only [maxLen] at h63; omega
  subst hsize
  subst hby
  rcases hown.2 with ⟨rfl, rfl⟩ | ⟨g, cap, cur, rfl, hbg, hg, hnc, hcm, hcs, htake⟩
  · by_cases hm : m = 0
    · have : v' = .slice none 0 0 := h4.2 ⟨rfl, hm⟩
      subst this
      simp [Value.ownBlock] at hk
    · have hq := run_append_nil (P := P) w t ty e i z ht hi hz a m c news hl hnews (by omega) (by omega) (by have hb := hbytes; simp only [Nat.zero_add] at hb; omega)
      rw [hr] at hq
      injection hq with hv hw
      subst hv
      simp only [Value.ownBlock, Option.some.injEq] at hk
      exact Or.inr (by omega)
  · by_cases hroom : n + m ≤ cap
    · have hfit : n * i.size + news.length ≤ cur.size := by rw [hl, hcs, ← Nat.add_mul]; exact Nat.mul_le_mul_right _ hroom
      have hq := run_append_room (P := P) w t ty e i ht hi g n cap cur hg a m c news hl hnews h1 hroom hfit
      rw [hr] at hq
      injection hq with hv hw
      subst hv
      exact Or.inl hk
    · have holds : ∀ j u, xs[j]? = some u → w.cell? ((⟨g, 0, none⟩ : Addr).add j) = some u := hown.cells (g := g) rfl
      have hq := run_append_grow (P := P) w t ty e i z ht hi hz ⟨g, 0, none⟩ n cap xs hown.1 holds a m c news hl hnews (by omega) (by omega) (growslice_fits (by omega) hbytes)
      rw [hr] at hq
      injection hq with hv hw
      subst hv
      simp only [Value.ownBlock, Option.some.injEq] at hk
      exact Or.inr (by omega)

end Go.Proofs.Ytnbecpeiodcohaa
