/- Rows of the call's own, of elements of several cells, in a registry; a row's last element taken. Conditions: none. euler.Names: of each dart its part. Conditions: the map is registered. -/
import Derived.Test.YtcnmbenfnpjkjaaZSA13
import Derived.Test.YtcnmbenfnpjkjaaZSA11
import Derived.Deep.DeepCutAuto
import Derived.Deep.RegionHeld3
import Derived.Test.YtcnmbenfnpjkjaaZSA14
namespace Go.Proofs.Ytcnmbenfnpjkjaa
open Go.RowKit
set_option linter.unusedVariables false

/-- a row of the call's own, of n elements of sz cells each -/
def OwnV (R : Reg) (B : Nat) (E : TypeId) (sz : Nat) (w : World) (v : Value) (n : Nat) (xs : List Value) : Prop :=
  w.ownsRow B E sz v n xs ∧ ∀ k, v.ownBlock = some k → R k = none

theorem OwnV.nil (R : Reg) (B : Nat) (E : TypeId) (sz : Nat) (w : World) : OwnV R B E sz w nilS 0 [] := ⟨World.ownsRow_nil w B E sz, fun k h => by simp [nilS, Value.ownBlock] at h⟩

theorem OwnV.mono {R : Reg} {B B' : Nat} {E : TypeId} {sz : Nat} {w : World} {v : Value} {n : Nat} {xs : List Value} (h : OwnV R B E sz w v n xs) (hB : B' ≤ B) : OwnV R B' E sz w v n xs := by
  obtain ⟨⟨h1, h2⟩, h3⟩ := h
  refine ⟨⟨h1, ?_⟩, h3⟩
  rcases h2 with h2 | ⟨g, cap, cur, hv, hg, r⟩
  · exact Or.inl h2
  · exact Or.inr ⟨g, cap, cur, hv, by omega, r⟩

theorem OwnV.ev {R R1 : Reg} {B : Nat} {E : TypeId} {sz : Nat} {w w1 : World} {v : Value} {n : Nat} {xs : List Value} (h : OwnV R B E sz w v n xs) (he : Ev R w R1 w1) : OwnV R1 B E sz w1 v n xs := by
  obtain ⟨⟨h1, h2⟩, h3⟩ := h
  rcases h2 with h2 | ⟨g, cap, cur, hv, hg, hh, r⟩
  · exact ⟨⟨h1, Or.inl h2⟩, fun k hk => by rw [h2.1] at hk; simp [Value.ownBlock] at hk⟩
  · have hn : R g = none := h3 g (by rw [hv]; rfl)
    refine ⟨⟨h1, Or.inr ⟨g, cap, cur, hv, hg, by rw [he.block g (lt_of_block hh) hn]; exact hh, r⟩⟩, fun k hk => ?_⟩
    rw [hv] at hk
    cases hk
    exact he.free g (lt_of_block hh) hn

theorem OwnV.kept {R : Reg} {B : Nat} {E : TypeId} {sz : Nat} {w w1 : World} {row : Option Nat} {v : Value} {n : Nat} {xs : List Value} (h : OwnV R B E sz w v n xs) (hg : w.grownBy w1 row) (hne : v.ownBlock = none ∨ v.ownBlock ≠ row) : OwnV R B E sz w1 v n xs :=
  ⟨h.1.kept hg hne, h.2⟩
theorem OwnV.alloc {R : Reg} {B : Nat} {E : TypeId} {sz : Nat} {w : World} {v : Value} {n : Nat} {xs : List Value} (h : OwnV R B E sz w v n xs) (o : Obj) : OwnV R B E sz (w.alloc o) v n xs := ⟨h.1.alloc o, h.2⟩
theorem OwnV.drew {R : Reg} {B : Nat} {E : TypeId} {sz : Nat} {w : World} {v : Value} {n : Nat} {xs : List Value} (h : OwnV R B E sz w v n xs) : OwnV R B E sz w.drew v n xs := h
theorem OwnV.lt {R : Reg} {B : Nat} {E : TypeId} {sz : Nat} {w : World} {v : Value} {n : Nat} {xs : List Value} (h : OwnV R B E sz w v n xs) : ∀ k, v.ownBlock = some k → B ≤ k ∧ k < w.heap.size := h.1.lt
theorem OwnV.setCell {R : Reg} {B : Nat} {E : TypeId} {sz : Nat} {w : World} {v : Value} {n : Nat} {xs : List Value} (h : OwnV R B E sz w v n xs) {a : Addr} (ha : v.ownBlock ≠ some a.block) (u : Value) : OwnV R B E sz (w.setCell a u) v n xs := by
  obtain ⟨⟨h1, h2⟩, h3⟩ := h
  refine ⟨⟨h1, ?_⟩, h3⟩
  rcases h2 with h2 | ⟨g, cap, cur, hv, hg, hh, r⟩
  · exact Or.inl h2
  · refine Or.inr ⟨g, cap, cur, hv, hg, ?_, r⟩
    rw [Below.heap_setCell _ _ _ _ (fun e => ha (by rw [hv, ← e]; rfl))]
    exact hh

/-- opened: the value, and each cell -/
theorem OwnV.open {R : Reg} {B : Nat} {E : TypeId} {sz : Nat} {w : World} {v : Value} {n : Nat} {xs : List Value} (h : OwnV R B E sz w v n xs) :
    ∃ a cap, v = .slice a n cap ∧ n ≤ cap ∧ cap ≤ maxLen ∧ (∀ i, i < xs.length → ∃ g, a = some ⟨g, 0, none⟩ ∧ B ≤ g ∧ R g = none ∧ w.cell? ⟨g, i, none⟩ = xs[i]? ∧ w.frozen? ⟨g, i, none⟩ = false) := by
  obtain ⟨⟨h1, h2⟩, h3⟩ := h
  rcases h2 with ⟨h2, hn⟩ | ⟨g, cap, cur, hv, hg, hh, hn, hm, hs, ht⟩
  · refine ⟨none, 0, by rw [h2, hn], by omega, by simp [maxLen], fun i hi => by rw [h1, hn] at hi; omega⟩
  · refine ⟨_, cap, hv, hn, hm, fun i hi => ⟨g, rfl, hg, h3 g (by rw [hv]; rfl), ?_, by simp [World.frozen?, hh]⟩⟩
    have hi' : i < n * sz := by rw [← h1]; exact hi
    rw [← ht]
    simp [World.cell?, hh, hi']

theorem OwnV.headAt {R : Reg} {B : Nat} {E : TypeId} {sz : Nat} {w : World} {a : Option Addr} {n cap : Nat} {xs : List Value} (h : OwnV R B E sz w (.slice a n cap) n xs) {i : Nat} (hi : i < xs.length) :
    ∃ g, a = some ⟨g, 0, none⟩ ∧ B ≤ g ∧ R g = none ∧ w.cell? ⟨g, i, none⟩ = xs[i]? ∧ w.frozen? ⟨g, i, none⟩ = false := by
  obtain ⟨a', cap', e, _, _, h⟩ := h.open
  cases e
  exact h i hi

theorem OwnV.put {R : Reg} {B : Nat} {E : TypeId} {sz : Nat} {w : World} {g n cap : Nat} {xs : List Value} (h : OwnV R B E sz w (.slice (some ⟨g, 0, none⟩) n cap) n xs) (i : Nat) (u : Value) :
    OwnV R B E sz (w.setCell ⟨g, i, none⟩ u) (.slice (some ⟨g, 0, none⟩) n cap) n (xs.set i u) := ⟨(h.1.stored i u).1, h.2⟩

section
variable {ops : Array Oper} {rest : List Oper} {o : Oper} {a : Act} {Q : Exit → Act → World → Prop}
/-- append of elements to one's own row -/
theorem wpList_app_row {w : World} (t E sz bytes : Nat) (z : Value) (ht : Try.prog.underlying t = some (.slice E)) (hin : (Try.prog.info? E).map (fun i => (i.zero, i.size, i.bytes)) = some (some z, sz, bytes)) (hzs : z.cells.size = sz) (hsz : 0 < sz) (hby : bytes ≤ 4096)
    (hgd : o.guard = none) (s x : Operand)
    (ho : o.op = .call { callee := .builtin .append, args := #[s, x], argTypes := #[t, t] })
    {R : Reg} {B : Nat} {v : Value} {n : Nat} {xs : List Value} (hown : OwnV R B E sz w v n xs) (hs : a.eval s = v) (ad : Addr) (m c : Nat) (ys : List Value) (hm : ys.length = m * sz) (hx : a.eval x = .slice (some ad) m c)
    (hc : ∀ j u, ys[j]? = some u → w.cell? (ad.add j) = some u) (h1 : ∀ u ∈ ys, u.oneCell' = true) (hn : n + m ≤ 8388608) (hB : B ≤ w.heap.size) (hR : ∀ k, w.heap.size ≤ k → R k = none)
    (h : ∀ v' w', OwnV R B E sz w' v' (n + m) (xs ++ ys) → w.grownBy w' v.ownBlock → (∀ k, v'.ownBlock = some k → v.ownBlock = some k ∨ w.heap.size ≤ k) → wpList Try.prog ops Q rest (a.put o.dst v') w') :
    wpList Try.prog ops Q (o :: rest) a w := by
  obtain ⟨i0, hi, hz0, hz1, hz2⟩ := info_parts hin
  obtain ⟨v', w', hr, h2, h3, h4⟩ := run_append_where (P := Try.prog) w B t o.type E i0 z sz bytes ht hi hz0 hz1 hz2 hzs hsz v n _ hown.1 ad m c ys hm hc h1 (by unfold maxLen; omega)
    (Nat.le_trans (Nat.mul_le_mul hn hby) (by decide)) hB
  refine wpList_plain hgd fun K hK => ?_
  unfold Oper.wp execOp
  simp only [ho, resolve, invoke, builtin, Sem.run_bind, Sem.run_pure, Result.andThen_ok, List.map_toArray, List.map_cons, List.map_nil, hs, hx, hr]
  refine hK _ _ (h v' w' ⟨h2, ?_⟩ h3 h4)
  intro k hk
  rcases h4 k hk with e | e
  · exact hown.2 k e
  · exact hR k e
end

theorem Ev.appV {R0 R : Reg} {w0 w w' : World} {B sz : Nat} {E : TypeId} {v : Value} {n : Nat} {xs : List Value} (he : Ev R0 w0 R w) (hown : OwnV R B E sz w v n xs) (hB : w0.heap.size ≤ B) (hg : w.grownBy w' v.ownBlock) : Ev R0 w0 R w' :=
  he.grown hg fun k hk => ⟨by have := hown.lt k hk; omega, hown.2 k hk⟩

/-- the last one is taken away -/
theorem OwnI.pop {R : Reg} {B : Nat} {E : TypeId} {w : World} {a : Option Addr} {n cap : Nat} {xs : List Int} {y : Int} (h : OwnI R B E w (.slice a n cap) (xs ++ [y])) : OwnI R B E w (.slice a (n - 1) cap) xs := by
  obtain ⟨⟨h1, h2⟩, h3⟩ := h
  have hn0 : n = xs.length + 1 := by
    rcases h2 with ⟨h2, hn⟩ | ⟨g, cap', cur, hv, hg, hh, hn, r⟩
    · simp at hn
    · have e : n = (xs ++ [y]).length := by injection hv
      rw [e]; simp
  subst hn0
  rcases h2 with ⟨h2, hn⟩ | ⟨g, cap', cur, hv, hg, hh, hn, hm, hs, ht⟩
  · simp at hn
  · obtain ⟨rfl, _, rfl⟩ : a = some ⟨g, 0, none⟩ ∧ _ ∧ cap = cap' := by injection hv with a b c; exact ⟨a, b, c⟩
    refine ⟨⟨by simp, Or.inr ⟨g, cap, cur, by rw [Nat.add_sub_cancel], hg, hh, by simp at hn; omega, hm, hs, ?_⟩⟩, fun k hk => h3 k hk⟩
    rw [Nat.mul_one]
    have := congrArg (List.take xs.length) ht
    rw [List.take_take, Nat.min_eq_left (by simp), List.map_append, List.take_left' (by simp)] at this
    exact this

theorem last_any (w : World) (a : Option Addr) (n cap : Nat) (xs : List Int) (y : Int) (hv : Ints w (.slice a n cap) (xs ++ [y])) (hn : n ≤ 4194304) :
    Calls Try.prog 90 #[.slice a n cap] w fun e w' => e = .returned (.tuple #[.int .i64 y, .slice a (n - 1) cap]) ∧ ∃ q, w' = w.drewN q := by
  have hn0 : n = xs.length + 1 := by rw [hv.length_eq]; simp
  obtain ⟨b, off, rfl, hc⟩ := hv.cell (i := xs.length) (by simp)
  have hcap : xs.length + 1 ≤ cap := by
    obtain ⟨a', cap', e, h, _⟩ := hv
    cases e
    simp at h
    omega
  have hnth : nth (xs ++ [y]) xs.length = y := by simp [nth]
  rw [hnth] at hc
  subst hn0
  clear hv hnth
  rw [Nat.add_sub_cancel]
  generalize hl : xs.length = m at *
  clear hl
  go_enter Try.func90, Try.ntmps90
  go_wp2_with fail
  go_region
  all_goals go_wp2
  all_goals go_ret2
  all_goals exact ⟨rfl, _, rfl⟩

end Go.Proofs.Ytcnmbenfnpjkjaa

namespace Go.Proofs.Ytcnmbenfnpjkjaa
open Go.RowKit
set_option linter.unusedVariables false

theorem OwnI.single {R : Reg} {w : World} (hI : Inv R w) (B : Nat) (hB : B ≤ w.heap.size) (y : Int) :
    OwnI R B 3 (w.alloc (.cells #[.int .i64 y] 3)) (.slice (some ⟨w.heap.size, 0, none⟩) 1 1) [y] := by
  refine ⟨⟨rfl, Or.inr ⟨w.heap.size, 1, #[.int .i64 y], rfl, hB, heap_alloc_new w _, Nat.le_refl _, by simp [maxLen], rfl, rfl⟩⟩, fun k hk => ?_⟩
  cases hk
  exact hI.none_of_ge (Nat.le_refl _)

theorem dgo_cons (s : List Nat) (c : Int) (g : Nat) (N : List Int) (x : Nat) (r : List Nat) : dgo s c (g + 1) (N, x :: r) = dgo s c g (dpush c (dpush c (N, r) (at' s x)) (x ^^^ 1)) := rfl
theorem dgo_nil (s : List Nat) (c : Int) (g : Nat) (N : List Int) : dgo s c g (N, []) = N := by cases g <;> rfl

theorem toI_rev_cons (x : Nat) (r : List Nat) : toI (x :: r).reverse = toI r.reverse ++ [(x : Int)] := by rw [List.reverse_cons, toI_append]

/-- the names' row and the waiting ones' -/
def Waits (R : Reg) (w wr : World) (n : Nat) (v : Value) (N : List Int) (stk : List Nat) : Prop :=
  Ev R w R wr ∧ N.length = n ∧ OwnI R w.heap.size 3 wr (.slice (some ⟨w.heap.size, 0, none⟩) n n) N ∧ ∃ a cap, v = .slice a stk.length cap ∧ OwnI R (w.heap.size + 1) 3 wr (.slice a stk.length cap) (toI stk.reverse)

set_option maxRecDepth 100000 in
set_option maxHeartbeats 4000000 in
theorem enames_any (R : Reg) (w : World) (hI : Inv R w) (p : Value) (s : List Nat) (root lone : Int) (hp : MapAt R p s root lone) :
    Calls Try.prog 83 #[p] w (RetOwn R w (partsL s)) := by
  obtain ⟨hS, hok⟩ := hp.ok hI
  have he2 : s.length % 2 = 0 := hok.1
  have hn : s.length ≤ 131073 := hok.2.1
  have hD := darts_any R w hI p s root lone hp
  have hSg := fun w' (he : Ev R w R w') (x : Nat) (hx : x < s.length) => sigma_any R w' he.inv p s root lone (he.map hp) x
  have hMt := fun w' (he : Ev R w R w') (x : Nat) (hx : x < s.length) => mate_any R w' he.inv p s root lone (he.map hp) x
  obtain ⟨n, hl⟩ : ∃ n, s.length = n := ⟨_, rfl⟩
  have HSg : Hid (∀ w', Ev R w R w' → ∀ x : Nat, x < n → Calls Try.prog 52 #[p, .int .i64 (x : Int)] w' fun e w1 => e = .returned (.int .i64 ((at' s x : Nat) : Int)) ∧ w' = w1) := Lib.hid (fun w' he x hx => by
    have := hSg w' he x (by omega)
    rwa [atI_in (by omega)] at this)
  have HMt : Hid (∀ w', Ev R w R w' → ∀ x : Nat, x < n → Calls Try.prog 54 #[p, .int .i64 (x : Int)] w' fun e w1 => e = .returned (.int .i64 ((x ^^^ 1 : Nat) : Int)) ∧ w' = w1) := Lib.hid (fun w' he x hx => by
    have := hMt w' he x (by omega)
    rwa [mateI_in (by omega)] at this)
  have HPI := Lib.hid (fun k (hk : k ≤ s.length) => partsGo_inv hS he2 k hk)
  have HXL := Lib.hid (fun x (hx : x < n) => xor_one_lt (n := n) (by omega) hx)
  have HSL := Lib.hid (fun x (hx : x < n) => (by have := hS.lt (i := x) (by omega); omega : at' s x < n))
  have HPL := Lib.hid (partsL_length hS he2)
  have HCn := Lib.hid (fun k (hk : k ≤ s.length) => (partsL_ord hS he2).cnt_le hk)
  have HS := Lib.hid hS
  have HEv := Lib.hid he2
  have HL := Lib.hid hl
  rw [hl] at hD he2 hn
  have HD := Lib.hid hD
  have HI := Lib.hid hI
  obtain ⟨i0, hi, hz0, hz1, hz2⟩ := info_parts int_info
  clear hI hS hl hp hok hSg hMt hD
  go_enter Try.func83, Try.ntmps83
  go_wp2_with (first | (go_at_call 10; refine HD.out.mono ?_; rintro e w' ⟨rfl, rfl⟩) | (refine wpList_make_full _ rfl _ _ 24 rfl w.heap.size 3 i0 (.int .i64 0) 1 Try.underlying24 hi hz0 hz1 .i64 .i64 (n : Int) (n : Int) n rfl rfl rfl rfl ?q1 ?q2 (Nat.le_refl _) ?_))
  case q1 => rw [hz2]; omega
  case q2 => unfold maxLen; omega
  intro w1 ho1 hg1
  have hown : OwnI R w.heap.size 3 w1 (.slice (some ⟨w.heap.size, 0, none⟩) n n) (List.replicate 0 (-1) ++ List.replicate (n - 0) 0) := by
    simpa using OwnI.made HI.out ho1
  have he1 : Ev R w R w1 := (Ev.refl HI.out).grown hg1 (by simp)
  have HO1 := Lib.hid hown
  have HE1 := Lib.hid he1
  clear ho1 hg1 hown he1
  go_wp2_with fail
  go_loopg [17] n (fun g v14 wr => ∃ k : Nat, k ≤ n ∧ n - k ≤ g ∧ v14 = .int .i64 (k : Int) ∧ Ev R w R wr ∧ OwnI R w.heap.size 3 wr (.slice (some ⟨w.heap.size, 0, none⟩) n n) (List.replicate k (-1) ++ List.replicate (n - k) 0))
  case atStart => exact ⟨0, Nat.zero_le _, by omega, rfl, HE1.out, HO1.out⟩
  case round =>
    obtain ⟨k, hk, hg, rfl, he, ho⟩ := hrel
    have hlen : (List.replicate k (-1 : Int) ++ List.replicate (n - k) 0).length = n := by simp; omega
    have HLE := Lib.hid hlen
    have HE := Lib.hid he
    have HO := Lib.hid ho
    clear he ho hlen
    by_cases hkn : k < n
    · obtain ⟨gb, cap', e1, hgb, hgn, hc, hz⟩ := HO.out.head (i := k) (by rw [HLE.out]; exact hkn)
      rw [HLE.out] at e1
      cases e1
      have hst2 := HO.out.put HLE.out k hkn (-1)
      rw [rep_set hkn] at hst2
      have HST := Lib.hid hst2
      clear hst2
      go_wp2_with fail
      go_roundg (n - (k + 1))
      case measure => omega
      case rel => exact ⟨k + 1, by omega, by omega, by go_num, HE.out.setCell (Nat.le_refl _) hgn _, HST.out⟩
    · obtain rfl : k = n := by omega
      have ho2 : OwnI R w.heap.size 3 wr (.slice (some ⟨w.heap.size, 0, none⟩) k k) (partsGo s 0).1 := by
        have := HO.out
        rw [partsGo_zero, HL.out]
        simpa using this
      have HO2 := Lib.hid ho2
      have HE2 := HE
      clear ho2
      go_wp2_with fail
      obtain ⟨wo, hwo⟩ : ∃ wo : World, wo = wr := ⟨_, rfl⟩
      subst hwo
      obtain ⟨n, hnk⟩ : ∃ n, n = k := ⟨_, rfl⟩
      subst hnk
      clear HO HO1 HE HE1 hk hg hkn HLE
      go_loopg [5, 26] n (fun g v5 v26 wr => ∃ k : Nat, k ≤ n ∧ n - k ≤ g ∧ v5 = .int .i64 (((partsGo s k).2 : Nat) : Int) ∧ v26 = .int .i64 (k : Int) ∧ Ev R w R wr ∧ OwnI R w.heap.size 3 wr (.slice (some ⟨w.heap.size, 0, none⟩) n n) (partsGo s k).1)
      case atStart => exact ⟨0, Nat.zero_le _, by omega, rfl, rfl, HE2.out, HO2.out⟩
      case round =>
        obtain ⟨k, hk, hg, rfl, rfl, he, ho⟩ := hrel
        have HE := Lib.hid he
        have HO := Lib.hid ho
        clear he ho
        have hpi := HPI.out k (by rw [HL.out]; exact hk)
        have hlen : (partsGo s k).1.length = n := by rw [hpi.len, HL.out]
        have HN := Lib.hid (partsGo_succ s k)
        obtain ⟨N, c, hNC⟩ : ∃ N C, partsGo s k = (N, C) := ⟨_, _, rfl⟩
        rw [hNC] at HO HN hlen hpi ⊢
        simp only at HO hlen hpi ⊢
        have HNC := Lib.hid hNC
        have HLN := Lib.hid hlen
        have HPI0 := Lib.hid hpi
        clear hNC hlen hpi
        by_cases hkn : k < n
        · obtain ⟨gb, cap', e1, hgb, hgn, hc, hz⟩ := HO.out.head (i := k) (by rw [HLN.out]; exact hkn)
          rw [HLN.out] at e1
          cases e1
          by_cases hold : 0 ≤ nth N k
          · go_wp2_with fail
            go_roundg (n - (k + 1))
            case measure => omega
            case rel =>
              have e2 : partsGo s (k + 1) = (N, c) := by rw [HN.out]; unfold partStep; rw [if_pos hold]
              exact ⟨k + 1, by omega, by omega, by rw [e2], by go_num, HE.out, by rw [e2]; exact HO.out⟩
          · have e2 : partsGo s (k + 1) = (dgo s c (2 * n + 1) (N.set k c, [k]), c + 1) := by rw [HN.out]; unfold partStep; rw [if_neg hold, HL.out]
            have HE2 := Lib.hid e2
            have HDI := Lib.hid (HPI0.out.first HS.out (by rw [HL.out]; exact hkn) hold)
            have hcb : c ≤ n := by
              have := HCn.out k (by rw [HL.out]; omega)
              have e : (partsGo s k).2 = c := by rw [HNC.out]
              have e2 : (partsGo s k).2 ≤ k := this
              omega
            clear e2
            have hwz : w.heap.size + 1 ≤ wr.heap.size := by
              have := HO.out.lt w.heap.size rfl
              omega
            have hwz' : w.heap.size < wr.heap.size := hwz
            have hset := (HO.out.put HLN.out k hkn (c : Int))
            have hevs := HE.out.setCell (p := ⟨w.heap.size, k, none⟩) (Nat.le_refl _) hgn (.int .i64 (c : Int))
            have hon := hset.alloc (.cells #[.int .i64 (k : Int)] 3)
            have hev := hevs.alloc (.cells #[.int .i64 (k : Int)] 3)
            have how := OwnI.single hevs.inv (w.heap.size + 1) (by simp; omega) (k : Int)
            rw [World.size_setCell] at how
            clear hset hevs
            have HW0 := Lib.hid (show Waits R w _ n (.slice (some ⟨wr.heap.size, 0, none⟩) 1 1) (N.set k (c : Int)) [k] from ⟨hev, by rw [List.length_set]; exact HLN.out, hon, _, _, rfl, how⟩)
            clear how hon hev
            go_wp2_with fail
            obtain ⟨M, hM⟩ : ∃ M, dgo s c (2 * n + 1) (N.set k c, [k]) = M := ⟨_, rfl⟩
            rw [hM] at HE2
            have HM := Lib.hid hM
            rw [HL.out] at HDI
            clear hM hc hz
            obtain ⟨wq, hwq⟩ : ∃ wq : World, wq = wr := ⟨_, rfl⟩
            subst hwq
            go_loopg [7] (2 * n + 1) (fun g v7 wq => ∃ (N' : List Int) (stk : List Nat), Waits R w wq n v7 N' stk ∧ DInv s k c N (fun _ => False) N' stk g ∧ dgo s c g (N', stk) = M ∧ g ≤ 2 * n + 1)
            case atStart => exact ⟨_, _, HW0.out, HDI.out, HM.out, Nat.le_refl _⟩
            case round =>
              obtain ⟨N', stk, hw, hd, hm, hgb⟩ := hrel
              have HD1 := Lib.hid hd
              have HM1 := Lib.hid hm
              clear hd hm
              cases stk with
              | nil =>
                have HW := Lib.hid hw
                clear hw
                obtain ⟨_, _, _, a, cap, rfl, _⟩ := HW.out
                go_wp2_with fail
                go_roundg (n - (k + 1))
                case measure => omega
                case rel =>
                  have e3 : N' = M := by have := HM1.out; rwa [dgo_nil] at this
                  exact ⟨k + 1, by omega, by omega, by rw [HE2.out]; go_num, by go_num, HW.out.1, by rw [HE2.out, ← e3]; exact HW.out.2.2.1⟩
              | cons x r =>
                have hlen := HD1.out.fuel
                rw [List.length_cons] at hlen
                obtain ⟨g', rfl⟩ : ∃ g', gk = g' + 1 := ⟨gk - 1, by omega⟩
                have hrl : r.length ≤ 2 * n := by omega
                have hx : x < n := by have := (HD1.out.wait x List.mem_cons_self).1; rw [HL.out] at this; exact this
                have HD2 := Lib.hid (DInv.pop HS.out HEv.out HPI0.out HD1.out)
                have hM2 := HM1.out
                rw [dgo_cons] at hM2
                have HM2 := Lib.hid hM2
                obtain ⟨hev, hln, hon, a, cap, rfl, how⟩ := hw
                rw [List.length_cons] at how ⊢
                rw [toI_rev_cons] at how
                have hlast := last_any wr a (r.length + 1) cap (toI r.reverse) (x : Int) how.ints (by omega)
                have hpop := how.pop
                rw [Nat.add_sub_cancel] at hlast hpop
                have HLast := Lib.hid hlast
                have HW1 := Lib.hid (fun q => (⟨hev.drewN q, hln, hon, a, cap, rfl, hpop⟩ : Waits R w (wr.drewN q) n (.slice a r.length cap) N' r))
                clear hlast hev hln hon how hpop hlen hM2
                go_wp2_with fail
                refine HLast.out.mono ?_
                rintro e w2 ⟨rfl, q, rfl⟩
                have HW2 := Lib.hid (HW1.out q)
                obtain ⟨w2, hw2⟩ : ∃ w2, wr.drewN q = w2 := ⟨_, rfl⟩
                rw [hw2] at HW2 ⊢
                clear hw2 HW1 HLast
                have hy1 := HSL.out x hx
                have hy2 := HXL.out x hx
                have C1 := Lib.hid (HSg.out w2 HW2.out.1 x hx)
                have C2 := Lib.hid (HMt.out w2 HW2.out.1 x hx)
                obtain ⟨y1, hy1e⟩ : ∃ y, at' s x = y := ⟨_, rfl⟩
                obtain ⟨y2, hy2e⟩ : ∃ y, x ^^^ 1 = y := ⟨_, rfl⟩
                rw [hy1e] at hy1 C1 HD2 HM2
                rw [hy2e] at hy2 C2 HD2 HM2
                clear hy1e hy2e
                go_wp2_with fail
                refine C1.out.mono ?_
                rintro e w' ⟨rfl, rfl⟩
                go_wp2_with fail
                refine C2.out.mono ?_
                rintro e w' ⟨rfl, rfl⟩
                go_wp2_with fail
                obtain ⟨N1, st1, hp1⟩ : ∃ A B, dpush (c : Int) (N', r) y1 = (A, B) := ⟨_, _, rfl⟩
                obtain ⟨N2, st2, hp2⟩ : ∃ A B, dpush (c : Int) (N1, st1) y2 = (A, B) := ⟨_, _, rfl⟩
                rw [hp1, hp2] at HD2 HM2
                have HP1 := Lib.hid hp1
                have HP2 := Lib.hid hp2
                clear hp1 hp2
                have hb1 : st1.length ≤ r.length + 1 := by
                  have := HP1.out
                  unfold dpush at this
                  split at this <;> (injection this with a b; rw [← b]; simp)
                have hb2 : st2.length ≤ st1.length + 1 := by
                  have := HP2.out
                  unfold dpush at this
                  split at this <;> (injection this with a b; rw [← b]; simp)
                have ix0 : ∀ w, (Instr.index 122 (.agg #[.int .i64 (y1 : Int), .int .i64 (y2 : Int)]) (.int .i64 0)).run Try.prog w = .ok (.int .i64 (y1 : Int)) w := fun _ => by kernel_rfl
                have ix1 : ∀ w, (Instr.index 122 (.agg #[.int .i64 (y1 : Int), .int .i64 (y2 : Int)]) (.int .i64 1)).run Try.prog w = .ok (.int .i64 (y2 : Int)) w := fun _ => by kernel_rfl
                go_loopg [7, 56] 2 (fun g v7 v56 wx => ∃ (i : Nat) (A : List Int) (B : List Nat), i ≤ 2 ∧ 2 - i ≤ g ∧ Waits R w wx n v7 A B ∧ ((i = 0 ∧ v56 = .int .i64 0 ∧ A = N' ∧ B = r) ∨ (i = 1 ∧ v56 = .int .i64 1 ∧ A = N1 ∧ B = st1) ∨ (i = 2 ∧ v56 = .int .i64 2 ∧ A = N2 ∧ B = st2)))
                case atStart => exact ⟨0, N', r, by omega, by omega, HW2.out, by simp⟩
                case round =>
                  obtain ⟨i, A, B, hi, hg, hw, hst⟩ := hrel
                  have hBl : B.length ≤ 2 * n + 2 := by rcases hst with ⟨_, _, _, rfl⟩ | ⟨_, _, _, rfl⟩ | ⟨_, _, _, rfl⟩ <;> omega
                  rcases hst with ⟨rfl, rfl, hA, hB⟩ | ⟨rfl, rfl, hA, hB⟩ | ⟨rfl, rfl, hA, hB⟩
                  · have HPa : Hid (dpush (c : Int) (A, B) y1 = (N1, st1)) := Lib.hid (by rw [hA, hB]; exact HP1.out)
                    clear hA hB
                    have HWt := Lib.hid hw
                    clear hw
                    obtain ⟨hev, hln, hon, aw, cw, rfl, how⟩ := HWt.out
                    have HEW := Lib.hid hev
                    have HLW := Lib.hid hln
                    have HON := Lib.hid hon
                    have HOW := Lib.hid how
                    have hwz : w.heap.size < wr.heap.size := by have := HON.out.lt w.heap.size rfl; omega
                    have hgn : R w.heap.size = none := HI.out.none_of_ge (Nat.le_refl _)
                    clear hev hln hon how
                    obtain ⟨gb, e1, _, _, hc, hz⟩ := HON.out.headAt HLW.out (i := y1) hy1
                    cases e1
                    by_cases hneg : nth A y1 < 0
                    · have e3 : dpush (c : Int) (A, B) y1 = (A.set y1 (c : Int), y1 :: B) := by unfold dpush; rw [if_pos hneg]
                      have HE3 := Lib.hid (e3.symm.trans HPa.out)
                      clear e3
                      have hon2 := (HON.out.put HLW.out y1 hy1 (c : Int)).alloc (.cells #[.int .i64 (y1 : Int)] 3)
                      have how2 := (HOW.out.setCell (a := ⟨w.heap.size, y1, none⟩) (fun e => Nat.not_succ_le_self _ (HOW.out.lt _ e).1) (.int .i64 (c : Int))).alloc (.cells #[.int .i64 (y1 : Int)] 3)
                      have hev2 := (HEW.out.setCell (p := ⟨w.heap.size, y1, none⟩) (Nat.le_refl _) hgn (.int .i64 (c : Int))).alloc (.cells #[.int .i64 (y1 : Int)] 3)
                      have HON2 := Lib.hid hon2
                      have HOW2 := Lib.hid how2
                      have HEW2 := Lib.hid hev2
                      have HB2 := Lib.hid (show w.heap.size + 1 ≤ ((wr.setCell ⟨w.heap.size, y1, none⟩ (.int .i64 (c : Int))).alloc (.cells #[.int .i64 (y1 : Int)] 3)).heap.size by simp; omega)
                      have HL2 := Lib.hid (show (toI B.reverse).length ≤ 8388607 by rw [toI_length, List.length_reverse]; omega)
                      clear hon2 how2 hev2
                      go_wp2_with (at_builtin; refine wpList_app_int (R := R) (B := w.heap.size + 1) rfl _ _ rfl HOW2.out rfl ⟨wr.heap.size, 0, none⟩ 1 (y1 : Int) rfl ?h0a ?h0b ?h0c ?h0d ?_)
                      case h0b => exact HL2.out
                      case h0c => have := HB2.out; first | exact this | (simp at this ⊢; omega)
                      case h0d => exact fun q hq => HEW2.out.inv.none_of_ge (by simp at hq ⊢; omega)
                      intro v' w5 ho5 hg5 hs5
                      have HE5 := Lib.hid (HEW2.out.app HOW2.out (by omega) hg5)
                      have HN5 := Lib.hid (HON2.out.kept hg5 (Or.inr (fun e => by have := (HOW2.out.lt _ e.symm).1; simp at this; omega)))
                      have HO5 := Lib.hid ho5
                      clear ho5 hg5 hs5
                      go_wp2_with fail
                      go_roundg (2 - (0 + 1))
                      case measure => omega
                      case rel =>
                        have e5 : A.set y1 (c : Int) = N1 ∧ y1 :: B = st1 := by have := HE3.out; injection this with a b; exact ⟨a, b⟩
                        have ho6 := HO5.out
                        rw [← toI_rev_cons, e5.2] at ho6
                        obtain ⟨a6, c6, e6, _⟩ := ho6.ints.open
                        rw [toI_length, List.length_reverse] at e6
                        subst e6
                        exact ⟨0 + 1, N1, st1, by omega, by omega, ⟨HE5.out, by rw [← e5.1, List.length_set]; exact HLW.out, by rw [← e5.1]; exact HN5.out, _, _, rfl, ho6⟩, by simp⟩
                    · have e3 : dpush (c : Int) (A, B) y1 = (A, B) := by unfold dpush; rw [if_neg hneg]
                      have HE3 := Lib.hid (e3.symm.trans HPa.out)
                      clear e3
                      go_wp2_with fail
                      go_roundg (2 - (0 + 1))
                      case measure => omega
                      case rel =>
                        have e5 : A = N1 ∧ B = st1 := by have := HE3.out; injection this with a b; exact ⟨a, b⟩
                        exact ⟨0 + 1, N1, st1, by omega, by omega, by rw [← e5.1, ← e5.2]; exact HWt.out, by simp⟩
                  · have HPa : Hid (dpush (c : Int) (A, B) y2 = (N2, st2)) := Lib.hid (by rw [hA, hB]; exact HP2.out)
                    clear hA hB
                    have HWt := Lib.hid hw
                    clear hw
                    obtain ⟨hev, hln, hon, aw, cw, rfl, how⟩ := HWt.out
                    have HEW := Lib.hid hev
                    have HLW := Lib.hid hln
                    have HON := Lib.hid hon
                    have HOW := Lib.hid how
                    have hwz : w.heap.size < wr.heap.size := by have := HON.out.lt w.heap.size rfl; omega
                    have hgn : R w.heap.size = none := HI.out.none_of_ge (Nat.le_refl _)
                    clear hev hln hon how
                    obtain ⟨gb, e1, _, _, hc, hz⟩ := HON.out.headAt HLW.out (i := y2) hy2
                    cases e1
                    by_cases hneg : nth A y2 < 0
                    · have e3 : dpush (c : Int) (A, B) y2 = (A.set y2 (c : Int), y2 :: B) := by unfold dpush; rw [if_pos hneg]
                      have HE3 := Lib.hid (e3.symm.trans HPa.out)
                      clear e3
                      have hon2 := (HON.out.put HLW.out y2 hy2 (c : Int)).alloc (.cells #[.int .i64 (y2 : Int)] 3)
                      have how2 := (HOW.out.setCell (a := ⟨w.heap.size, y2, none⟩) (fun e => Nat.not_succ_le_self _ (HOW.out.lt _ e).1) (.int .i64 (c : Int))).alloc (.cells #[.int .i64 (y2 : Int)] 3)
                      have hev2 := (HEW.out.setCell (p := ⟨w.heap.size, y2, none⟩) (Nat.le_refl _) hgn (.int .i64 (c : Int))).alloc (.cells #[.int .i64 (y2 : Int)] 3)
                      have HON2 := Lib.hid hon2
                      have HOW2 := Lib.hid how2
                      have HEW2 := Lib.hid hev2
                      have HB2 := Lib.hid (show w.heap.size + 1 ≤ ((wr.setCell ⟨w.heap.size, y2, none⟩ (.int .i64 (c : Int))).alloc (.cells #[.int .i64 (y2 : Int)] 3)).heap.size by simp; omega)
                      have HL2 := Lib.hid (show (toI B.reverse).length ≤ 8388607 by rw [toI_length, List.length_reverse]; omega)
                      clear hon2 how2 hev2
                      go_wp2_with (at_builtin; refine wpList_app_int (R := R) (B := w.heap.size + 1) rfl _ _ rfl HOW2.out rfl ⟨wr.heap.size, 0, none⟩ 1 (y2 : Int) rfl ?h1a ?h1b ?h1c ?h1d ?_)
                      case h1b => exact HL2.out
                      case h1c => have := HB2.out; first | exact this | (simp at this ⊢; omega)
                      case h1d => exact fun q hq => HEW2.out.inv.none_of_ge (by simp at hq ⊢; omega)
                      intro v' w5 ho5 hg5 hs5
                      have HE5 := Lib.hid (HEW2.out.app HOW2.out (by omega) hg5)
                      have HN5 := Lib.hid (HON2.out.kept hg5 (Or.inr (fun e => by have := (HOW2.out.lt _ e.symm).1; simp at this; omega)))
                      have HO5 := Lib.hid ho5
                      clear ho5 hg5 hs5
                      go_wp2_with fail
                      go_roundg (2 - (1 + 1))
                      case measure => omega
                      case rel =>
                        have e5 : A.set y2 (c : Int) = N2 ∧ y2 :: B = st2 := by have := HE3.out; injection this with a b; exact ⟨a, b⟩
                        have ho6 := HO5.out
                        rw [← toI_rev_cons, e5.2] at ho6
                        obtain ⟨a6, c6, e6, _⟩ := ho6.ints.open
                        rw [toI_length, List.length_reverse] at e6
                        subst e6
                        exact ⟨1 + 1, N2, st2, by omega, by omega, ⟨HE5.out, by rw [← e5.1, List.length_set]; exact HLW.out, by rw [← e5.1]; exact HN5.out, _, _, rfl, ho6⟩, by simp⟩
                    · have e3 : dpush (c : Int) (A, B) y2 = (A, B) := by unfold dpush; rw [if_neg hneg]
                      have HE3 := Lib.hid (e3.symm.trans HPa.out)
                      clear e3
                      go_wp2_with fail
                      go_roundg (2 - (1 + 1))
                      case measure => omega
                      case rel =>
                        have e5 : A = N2 ∧ B = st2 := by have := HE3.out; injection this with a b; exact ⟨a, b⟩
                        exact ⟨1 + 1, N2, st2, by omega, by omega, by rw [← e5.1, ← e5.2]; exact HWt.out, by simp⟩
                  · subst hA hB
                    go_wp2_with fail
                    go_roundg g'
                    case measure => omega
                    case rel => exact ⟨A, B, hw, HD2.out, HM2.out, by omega⟩
        · obtain rfl : k = n := by omega
          go_wp2_with fail
          go_ret
          refine ⟨_, rfl, HE.out, ?_⟩
          have e3 : partsL s = N := by unfold partsL; rw [HL.out, HNC.out]
          rw [e3]
          exact HO.out

end Go.Proofs.Ytcnmbenfnpjkjaa
