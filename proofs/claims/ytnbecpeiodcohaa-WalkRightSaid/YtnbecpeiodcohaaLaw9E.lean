/- parquetrylaw09.WalkRight, the walk: it answers true. Conditions: the bytes lie in memory. -/
import Derived.Test.YtnbecpeiodcohaaLaw9A
import Derived.Test.YtnbecpeiodcohaaWalkH
import Derived.Test.YtnbecpeiodcohaaWalkJ
import Derived.Deep.RegionHeldLaw
namespace Go.Proofs.Ytnbecpeiodcohaa
open Go.RowKit
set_option linter.unusedVariables false

theorem stepsV_set : ∀ {l : List (Int × Int)} {i : Nat} {x y : Int}, i < l.length → ((stepsV l).set (i * 2) (.int .i64 x)).set (i * 2 + 1) (.int .i64 y) = stepsV (l.set i (x, y))
  | z :: l, 0, x, y, _ => rfl
  | z :: l, i + 1, x, y, h => by
    have ih := stepsV_set (l := l) (i := i) (x := x) (y := y) (by simpa using h)
    have e : (i + 1) * 2 = i * 2 + 1 + 1 := by omega
    rw [e]
    show _ :: _ :: ((stepsV l).set (i * 2) _).set (i * 2 + 1) _ = _ :: _ :: stepsV (l.set i (x, y))
    rw [ih]
/-- append of one step to one's own row, as a step of a region that draws -/
theorem step_app_step {ops : Array Oper} {o : Oper} {a : Act} {w : World} {K : Act → World → Prop} {Q : Exit → Act → World → Prop} {E : Prop} (hw : Region.wanted o (yielded ops a.tmps) = true) (s x : Operand)
    (ho : o.op = .call { callee := .builtin .append, args := #[s, x], argTypes := #[31, 31] })
    {R : Reg} {B : Nat} {v : Value} {n : Nat} {xs : List Value} (hown : OwnV R B 41 2 w v n xs) (hs : a.eval s = v) (g c : Nat) (y0 y1 : Value) (h1 : y0.oneCell' = true) (h2 : y1.oneCell' = true) (hx : a.eval x = .slice (some ⟨g, 0, none⟩) 1 c)
    (hc0 : w.cell? ⟨g, 0, none⟩ = some y0) (hc1 : w.cell? ⟨g, 1, none⟩ = some y1) (hn : n ≤ 1000000) (hB : B ≤ w.heap.size) (hR : ∀ k, w.heap.size ≤ k → R k = none)
    (h : ∀ v' w', OwnV R B 41 2 w' v' (n + 1) (xs ++ [y0, y1]) → w.grownBy w' v.ownBlock → (∀ k, v'.ownBlock = some k → v.ownBlock = some k ∨ w.heap.size ≤ k) → K (a.put o.dst v') w') :
    if Region.wanted o (yielded ops a.tmps) = true then Oper.wp Try.prog o a w K Q else E := by
  rw [if_pos hw]
  obtain ⟨i0, hi, hz0, hz1, hz2⟩ := info_parts step_info
  obtain ⟨v', w', hr, h3, h4, h5⟩ := run_append_where (P := Try.prog) w B 31 o.type 41 i0 _ 2 16 Try.underlying31 hi hz0 hz1 hz2 rfl (by decide) v n _ hown.1 ⟨g, 0, none⟩ 1 c [y0, y1]
    rfl
    (by
      intro j u hj
      rw [Addr.add_lit]
      match j, hj with
      | 0, hj =>
        simp only [List.getElem?_cons_zero, Option.some.injEq] at hj
        subst hj
        exact hc0
      | 1, hj =>
        simp only [List.getElem?_cons_succ, List.getElem?_cons_zero, Option.some.injEq] at hj
        subst hj
        exact hc1)
    (by
      intro u hu
      simp only [List.mem_cons, List.not_mem_nil, or_false] at hu
      rcases hu with rfl | rfl
      · exact h1
      · exact h2) (by unfold maxLen; omega) (by omega) hB
  unfold Oper.wp execOp
  simp only [ho, resolve, invoke, builtin, Sem.run_bind, Sem.run_pure, Result.andThen_ok, List.map_toArray, List.map_cons, List.map_nil, hs, hx, hr]
  refine h v' w' ⟨h3, ?_⟩ h4 h5
  intro k hk
  rcases h5 k hk with e | e
  · exact hown.2 k e
  · exact hR k e

theorem FreeS.app {R : Reg} {B : Nat} {E : TypeId} {w : World} {a : Option Addr} {n c : Nat} {L : List (Int × Int)} {x y : Int} (h : OwnV R B E 2 w (.slice a (n + 1) c) (n + 1) (stepsV L ++ [.int .i64 x, .int .i64 y])) (hl : L.length = n) : FreeS R w (.slice a (n + 1) c) (L ++ [(x, y)]) := by
  have e : (L ++ [(x, y)]).length = n + 1 := by simp [hl]
  refine FreeS.of_own (B := B) (E := E) ?_
  rw [e, stepsV_append]
  exact h
theorem blk_evA {R0 R R1 : Reg} {w0 w w1 : World} {cs : Array Value} {T : TypeId} (h : Ev R0 w0 R w) (he : Ev R (w.alloc (.cells cs T)) R1 w1) : w1.heap[w.heap.size]? = some (.cells cs T (0, 0)) :=
  (he.block _ (by simp) (h.inv.none_of_ge (Nat.le_refl _))).trans (heap_alloc_new w _)
theorem FreeS.lit1 {R : Reg} {w : World} (hI : Inv R w) (x y : Int) : FreeS R (w.alloc (.cells #[.int .i64 x, .int .i64 y] 41)) (.slice (some ⟨w.heap.size, 0, none⟩) 1 1) [(x, y)] := by
  refine ⟨_, 1, rfl, Nat.le_refl _, by simp [maxLen], fun i hi => ?_⟩
  obtain rfl : i = 0 := by simpa using hi
  exact ⟨w.heap.size, 0, rfl, hI.none_of_ge (Nat.le_refl _), by simp [nthS], by simp [nthS]⟩
theorem FreeS.lit2 {R : Reg} {w : World} (hI : Inv R w) (x y x' y' : Int) : FreeS R (w.alloc (.cells #[.int .i64 x, .int .i64 y, .int .i64 x', .int .i64 y'] 41)) (.slice (some ⟨w.heap.size, 0, none⟩) 2 2) [(x, y), (x', y')] := by
  refine ⟨_, 2, rfl, Nat.le_refl _, by simp [maxLen], fun i hi => ?_⟩
  have h2 : i = 0 ∨ i = 1 := by have : i < 2 := hi; omega
  rcases h2 with rfl | rfl
  · exact ⟨w.heap.size, 0, rfl, hI.none_of_ge (Nat.le_refl _), by simp [nthS], by simp [nthS]⟩
  · exact ⟨w.heap.size, 0, rfl, hI.none_of_ge (Nat.le_refl _), by simp [nthS], by simp [nthS]⟩

set_option maxRecDepth 100000 in
set_option maxHeartbeats 16000000 in
theorem walkRight_walk (w : World) (n ro aa : Nat) (tx kd : Int) (hn : n ≤ 255) (hro : ro ≤ 255) (haa : aa ≤ 255) (v : Value) (bs : List Nat) (hv : FreeB noReg w v bs) :
    Calls Try.prog 7 #[.int .u8 (n : Int), v, .int .u8 (ro : Int), .int .u8 (aa : Int), .int .i64 tx, .int .i64 kd] w (RetTrue noReg w) := by
  have HA := Lib.hid (awake9_any noReg w (Inv.noReg w))
  have hnot := not_run
  have HV := Lib.hid hv
  have hS := mixL_perm (2 * (n % 14)) bs
  have hSl := mixL_length (2 * (n % 14)) bs
  have HM := Lib.hid (fun R w' (hI : Inv R w') (hv : FreeB R w' v bs) => made9_any R w' hI n hn v bs hv)
  obtain ⟨S, hSe⟩ : ∃ S, mixL (2 * (n % 14)) bs = S := ⟨_, rfl⟩
  obtain ⟨r, hre⟩ : ∃ r, anyRoot (n % 14) 0 = r := ⟨_, rfl⟩
  obtain ⟨m, hm⟩ : ∃ m, 2 * (n % 14) = m := ⟨_, rfl⟩
  have hm26 : m ≤ 26 := by omega
  have hev : m % 2 = 0 := by omega
  rw [hSe, hre] at HM
  rw [hSe, hm] at hSl
  rw [hSe] at hS
  rw [← hSl] at hev hm26
  obtain ⟨a0, c0, rfl, _⟩ := hv
  clear hSe hre hm hSl
  have HS := Lib.hid hS
  have HEv := Lib.hid hev
  clear hS
  go_enter Try.func7, Try.ntmps7
  go_wp2_with fail
  refine HA.out.mono ?_
  rintro e w1 ⟨rfl, R1, he1⟩
  have HE1 := Lib.hid he1
  clear he1
  go_wp2_with fail
  refine (HM.out R1 w1 HE1.out.inv (HV.out.ev HE1.out)).mono ?_
  rintro e w2 ⟨p, a1, c1, R2, rfl, he2, hp2, hf2⟩
  unfold refV
  have hnone : R2 w2.heap.size = none := he2.inv.none_of_ge (Nat.le_refl _)
  have hI3 := he2.inv.alloc (.cells #[.slice a1 S.length c1, .int .i64 r, .int .i64 0] 27)
  have hf3 := hf2.ev ((Ev.refl he2.inv).alloc (.cells #[.slice a1 S.length c1, .int .i64 r, .int .i64 0] 27))
  have HE2 := Lib.hid (HE1.out.trans he2)
  have HP3 := Lib.hid hp2
  have HX := Lib.hid (fun R' w' (h : Ev R2 (w2.alloc (.cells #[.slice a1 S.length c1, .int .i64 r, .int .i64 0] 27)) R' w') => h.ref3 hnone)
  have HF3 := Lib.hid hf3
  have HI3 := Lib.hid hI3
  clear he2 hp2 hf2 hI3 hnone hf3
  go_upto_region 4 with fail
  obtain ⟨w3, hw3⟩ : ∃ w3, w3 = w2.alloc (.cells #[.slice a1 S.length c1, .int .i64 r, .int .i64 0] 27) := ⟨_, rfl⟩
  have HE3 : Hid (Ev noReg w R2 w3) := by rw [hw3]; exact HE2.out.alloc _
  rw [← hw3] at HX HF3 HI3 ⊢
  clear hw3 HE2
  have HDa := Lib.hid (fun R' w' (he : Ev R2 w3 R' w') => darts_any R' w' he.inv p S r 0 (he.map HP3.out))
  go_wp2_with fail
  refine (of_nil _ 0).mono ?_
  rintro e w4 ⟨rfl, rfl⟩
  unfold nilS
  go_wp2_with fail
  refine (right_nil _ 0 _).mono ?_
  rintro e w4 ⟨rfl, rfl⟩
  have HE4 := Lib.hid ((Ev.refl HI3.out).alloc (.cells #[.int .i64 0, .int .i64 0] 41))
  have HF4 := Lib.hid (FreeS.lit1 HI3.out 0 0)
  go_wp2_with fail
  refine (order_nil _ _ HE4.out.inv _ _ HF4.out).mono ?_
  rintro e w5 ⟨a5, c5, rfl, he5⟩
  have HE5 := Lib.hid (HE4.out.trans he5)
  clear he5
  go_wp2_with fail
  refine (word_any _ _ HE5.out.inv none 0 0 [] (FreeS.nil _ _) (by omega)).mono ?_
  rintro e w6 ⟨v6, rfl, he6, hw6⟩
  have HE6 := Lib.hid (HE5.out.trans he6)
  have HW6 := Lib.hid hw6
  clear he6 hw6
  go_wp2_with fail
  refine (wlen_any _ _ _ _ _ HW6.out).mono ?_
  rintro e w7 ⟨rfl, rfl⟩
  have e6 : (wordL []).length = 0 := rfl
  rw [e6]
  have HE7 := Lib.hid (HE6.out.alloc (.cells #[.int .i64 0, .int .i64 7, .int .i64 0, .int .i64 (-1)] 41))
  have HF7 := Lib.hid (FreeS.lit2 HE6.out.inv 0 7 0 (-1))
  go_wp2_with fail
  refine (word_any _ _ HE7.out.inv _ 2 2 _ HF7.out (by omega)).mono ?_
  rintro e w8 ⟨v8, rfl, he8, hw8⟩
  have HE8 := Lib.hid (HE7.out.trans he8)
  have HW8 := Lib.hid hw8
  clear he8 hw8
  go_wp2_with fail
  refine (wlen_any _ _ _ _ _ HW8.out).mono ?_
  rintro e w9 ⟨rfl, rfl⟩
  have e8 : (wordL [((0 : Int), (7 : Int)), (0, -1)]).length = 0 := rfl
  rw [e8]
  go_wp2_with fail
  refine (tree_any _ _ HE8.out.inv none 0 0 [] (FreeS.nil _ _) (by omega)).mono ?_
  rintro e wa ⟨va, rfl, hea, hoa⟩
  obtain ⟨aa', ca, rfl, _⟩ := hoa.ints.open
  have e9 : (treeL []).length = 0 := rfl
  rw [e9]
  have HEa := Lib.hid (HE8.out.trans hea)
  clear hea hoa e6 e8 e9
  by_cases h0 : S.length = 0
  · have hb : ((S.length : Int) == 0) = true := by simp [h0]
    have HRo := Lib.hid (right_out R2 wa HEa.out.inv p S r 0 (HEa.out.map HP3.out) 0 (Or.inr (by omega)) nilS)
    unfold nilS at HRo
    go_wp2_with fail
    refine (HDa.out _ _ HEa.out).mono ?_
    rintro e wb ⟨rfl, rfl⟩
    go_wp2_with fail
    refine HRo.out.mono ?_
    rintro e wc ⟨rfl, rfl⟩
    go_wp2_with fail
    go_ret
    exact ⟨by simp, R2, HE3.out.trans HEa.out⟩
  · have hb : ((S.length : Int) == 0) = false := beq_eq_false_iff_ne.2 (by omega)
    obtain ⟨rt, hrt⟩ : ∃ rt, ro % S.length = rt := ⟨_, rfl⟩
    have hrl : rt < S.length := by rw [← hrt]; exact Nat.mod_lt _ (by omega)
    have hmod : (ro : Int) % (S.length : Int) = (rt : Int) := by rw [← hrt]; simp
    have hpos : (S.length : Int) ≠ 0 := by omega
    clear hrt
    have hVV : (sizesL S).length + 0 = (sizesL S).length := Nat.add_zero _
    obtain ⟨P, hPe⟩ : ∃ P, partC' S rt = P := ⟨_, rfl⟩
    have hP26 : P ≤ 26 := by have := partC_le S rt; omega
    have hP0 : 0 < P := by have := (wlen HS.out HEv.out hrl (V := (sizesL S).length) (Nat.le_refl _)).2.1; rwa [hPe] at this
    have hW := fun R' w' (he : Ev R2 w4 R' w') => walk_of R' w' he.inv p S r 0 (he.map HP3.out) rt hrl
    have hRg := fun R' w' (he : Ev R2 w4 R' w') a n c ys hv hn => right_walk R' w' he.inv p S r 0 (he.map HP3.out) rt hrl a n c ys hv hn
    rw [hVV, hPe] at hW hRg
    have hSt := stepL_length S (sizesL S).length rt P
    obtain ⟨L, hL⟩ : ∃ L, stepL S (sizesL S).length rt P = L := ⟨_, rfl⟩
    rw [hL] at hW hRg hSt
    have HW := Lib.hid hW
    have HRg := Lib.hid hRg
    have HSt := Lib.hid hSt
    obtain ⟨j, hj⟩ : ∃ j, aa % P = j := ⟨_, rfl⟩
    have hjl : j < P := by rw [← hj]; exact Nat.mod_lt _ hP0
    have hmj : (aa : Int) % (P : Int) = (j : Int) := by rw [← hj]; simp
    have hPi : (P : Int) ≠ 0 := by omega
    clear hW hRg hL hSt hVV hPe hj
    go_wp2_with fail
    refine (HDa.out _ _ HEa.out).mono ?_
    rintro e wb ⟨rfl, rfl⟩
    go_wp2_with fail
    refine (HDa.out _ _ HEa.out).mono ?_
    rintro e wb ⟨rfl, rfl⟩
    go_wp2_with fail
    refine (HW.out _ _ HEa.out).mono ?_
    rintro e wb ⟨Rb, ab, cb, rfl, heb, hob⟩
    have hfb := FreeS.of_own hob
    rw [HSt.out] at hfb ⊢
    have HEb := Lib.hid (HEa.out.trans heb)
    have HFb := Lib.hid hfb
    have HCl := Lib.hid (sclone_any Rb wb heb.inv ab P cb L hfb hP0 (by omega))
    clear heb hob hfb
    go_wp2_with fail
    refine HCl.out.mono ?_
    rintro e wc ⟨ac, cc, rfl, hec, hoc⟩
    rw [HSt.out] at hoc ⊢
    obtain ⟨go, rfl, hgo, hgon, o0, oz0⟩ := hoc.headAt (i := j * 2) (by rw [stepsV_length, HSt.out]; omega)
    obtain ⟨_, e1, _, _, o1, oz1⟩ := hoc.headAt (i := j * 2 + 1) (by rw [stepsV_length, HSt.out]; omega)
    cases e1
    obtain ⟨y0, y1⟩ := stepsV_get (l := L) (i := j) (by rw [HSt.out]; exact hjl)
    rw [y0] at o0
    rw [y1] at o1
    have HEc := Lib.hid (HEb.out.trans hec)
    have HFc := Lib.hid (HFb.out.ev hec)
    have hset := ((hoc.put (j * 2) (.int .i64 tx)).put (j * 2 + 1) (.int .i64 kd))
    rw [stepsV_set (by rw [HSt.out]; exact hjl)] at hset
    have HOd := Lib.hid hset
    have hEvd := (HEc.out.setCell (p := ⟨go, j * 2, none⟩) (by show w4.heap.size ≤ go; have := HEb.out.size; omega) hgon (.int .i64 tx)).setCell (p := ⟨go, j * 2 + 1, none⟩) (by show w4.heap.size ≤ go; have := HEb.out.size; omega) hgon (.int .i64 kd)
    have HEd := Lib.hid hEvd
    have hEvf : Ev Rb wb Rb ((wc.setCell ⟨go, j * 2, none⟩ (.int .i64 tx)).setCell ⟨go, j * 2 + 1, none⟩ (.int .i64 kd)) := (hec.setCell (p := ⟨go, j * 2, none⟩) hgo hgon _).setCell (p := ⟨go, j * 2 + 1, none⟩) hgo hgon _
    have HFd := Lib.hid (HFb.out.ev hEvf)
    clear hec hoc hset hEvd hEvf y0 y1
    go_upto_region 14 with fail
    obtain ⟨wk, hwk⟩ : ∃ wk, wk = (wc.setCell ⟨go, j * 2, none⟩ (.int .i64 tx)).setCell ⟨go, j * 2 + 1, none⟩ (.int .i64 kd) := ⟨_, rfl⟩
    rw [← hwk] at HOd HEd HFd ⊢
    have HEk := Lib.hid HEd.out
    have hfo : FreeS Rb wk (.slice (some ⟨go, 0, none⟩) P cc) (L.set j (tx, kd)) := by
      have hl : (L.set j (tx, kd)).length = P := by rw [List.length_set, HSt.out]
      have h := FreeS.of_own (xs := L.set j (tx, kd)) (v := .slice (some ⟨go, 0, none⟩) P cc) (B := wb.heap.size) (E := 41) (R := Rb) (w := wk) (by rw [hl]; exact HOd.out)
      exact h
    clear hwk HFc HFb HEc HEb HCl HEd
    obtain ⟨gs, os, rfl, hgs, k0', k1'⟩ := HFd.out.at hjl
    obtain ⟨_, _, e1, _, l0, l1⟩ := HFd.out.at (i := 0) hP0
    cases e1
    obtain ⟨_, _, e1, hgo2, m0, m1⟩ := hfo.at hjl
    cases e1
    have hnj : nthS (L.set j (tx, kd)) j = (tx, kd) := by
      rw [nthS_get (by rw [List.length_set, HSt.out]; exact hjl)]
      simp
    rw [hnj] at m0 m1
    obtain ⟨xj, hxj⟩ : ∃ x, nthS L j = x := ⟨_, rfl⟩
    obtain ⟨d, kj⟩ := xj
    obtain ⟨xz, hxz⟩ : ∃ x, nthS L 0 = x := ⟨_, rfl⟩
    obtain ⟨d0, k0⟩ := xz
    rw [hxj] at k0' k1'
    rw [hxz] at l0 l1
    have hset : L.set j (tx, kd) = L ↔ tx = d ∧ kd = kj := by
      have hjL : j < L.length := by rw [HSt.out]; exact hjl
      constructor
      · intro h
        have e := congrArg (fun l => nthS l j) h
        have e : nthS (L.set j (tx, kd)) j = nthS L j := e
        rw [hnj, hxj] at e
        injection e with e1 e2
        exact ⟨e1, e2⟩
      · rintro ⟨rfl, rfl⟩
        rw [← hxj, nthS_get hjL]
        exact List.set_getElem_self hjL
    have HC : Hid (∀ R' w', Ev Rb wk R' w' → w'.cell? ⟨go, j * 2, none⟩ = some (.int .i64 tx) ∧ w'.cell? ⟨go, j * 2 + 1, none⟩ = some (.int .i64 kd) ∧ w'.cell? ⟨gs, os + j * 2, none⟩ = some (.int .i64 d) ∧ w'.cell? ⟨gs, os + j * 2 + 1, none⟩ = some (.int .i64 kj) ∧ w'.cell? ⟨gs, os, none⟩ = some (.int .i64 d0) ∧ w'.cell? ⟨gs, os + 1, none⟩ = some (.int .i64 k0)) := Lib.hid fun R' w' h => by
      try simp only [Nat.zero_add] at m0 m1
      try simp only [Nat.zero_mul, Nat.add_zero] at l0 l1
      exact ⟨(h.cell (lt_of_cell m0) hgo2).trans m0, (h.cell (lt_of_cell m0) hgo2).trans m1, (h.cell (lt_of_cell k0') hgs).trans k0', (h.cell (lt_of_cell k0') hgs).trans k1', (h.cell (lt_of_cell l0) hgs).trans l0, (h.cell (lt_of_cell l0) hgs).trans l1⟩
    have hcb : P ≤ cb := by
      obtain ⟨_, _, e, h, _⟩ := HFd.out
      have h2 := HSt.out
      injection e with _ _ e3
      omega
    have hjcb : j ≤ cb := by omega
    have hR1 := fun R' w' (he : Ev Rb wk R' w') => HRg.out R' w' (HEk.out.trans he) _ P cb L (HFd.out.ev he) (by omega)
    have hR2 := fun R' w' (he : Ev Rb wk R' w') => HRg.out R' w' (HEk.out.trans he) _ P cc _ (hfo.ev he) (by omega)
    have hR3 := fun R' w' (he : Ev Rb wk R' w') => HRg.out R' w' (HEk.out.trans he) _ j cb _ ((HFd.out.ev he).take (by omega)) (by omega)
    have hR4 := fun R' w' (he : Ev Rb wk R' w') a c (hv : FreeS R' w' (.slice a (P + 1) c) (L ++ [(d0, k0)])) => HRg.out R' w' (HEk.out.trans he) a (P + 1) c _ hv (by omega)
    rw [decide_eq_true (rfl : L = L)] at hR1
    rw [decide_eq_false (fun e : L.take j = L => by have := congrArg List.length e; rw [List.length_take, HSt.out] at this; omega)] at hR3
    rw [decide_eq_false (fun e : L ++ [(d0, k0)] = L => by have := congrArg List.length e; simp at this)] at hR4
    have HR1 := Lib.hid hR1
    have HR2 := Lib.hid hR2
    have HR3 := Lib.hid hR3
    have HR4 := Lib.hid hR4
    have HCl := Lib.hid (fun R' w' (he : Ev Rb wk R' w') => sclone_any R' w' he.inv _ P cb L (HFd.out.ev he) hP0 (by omega))
    have HSet := Lib.hid hset
    clear hR1 hR2 hR3 hR4 hfo k0' k1' l0 l1 m0 m1 hgs hgo2 hnj hxj hxz hset o0 o1 oz0 oz1 hgo hgon
    obtain ⟨q, hq⟩ : ∃ q, decide (L.set j (tx, kd) = L) = q := ⟨_, rfl⟩
    have hse := step_eql tx kd d kj
    have e3 : (tx == d && kd == kj) = q := by
      rw [← hq]
      by_cases h : tx = d ∧ kd = kj
      · rw [decide_eq_true (HSet.out.2 h)]; simp [h.1, h.2]
      · rw [decide_eq_false (fun e => h (HSet.out.1 e))]
        by_cases h1 : tx = d <;> by_cases h2 : kd = kj <;> simp [h1, h2] <;> exact h ⟨h1, h2⟩
    rw [e3] at hse
    have HR2b := HR2.out
    rw [hq] at HR2b
    have HR2 := Lib.hid HR2b
    have eqq : (q == q) = true := by simp
    clear HR2b e3 hq
    have HEd := Lib.hid (Ev.refl HEk.out.inv).drew
    obtain ⟨x0, x1, x2, x3, x4, x5⟩ := HC.out _ _ HEd.out
    go_region_held_law (fun w' => w'.cell? ⟨go, j * 2, none⟩ = some (.int .i64 tx) ∧ w'.cell? ⟨go, j * 2 + 1, none⟩ = some (.int .i64 kd) ∧ w'.cell? ⟨gs, os + j * 2, none⟩ = some (.int .i64 d) ∧ w'.cell? ⟨gs, os + j * 2 + 1, none⟩ = some (.int .i64 kj) ∧ w'.cell? ⟨gs, os, none⟩ = some (.int .i64 d0) ∧ w'.cell? ⟨gs, os + 1, none⟩ = some (.int .i64 k0)) (first | with_reducible exact ⟨x0, x1, x2, x3, x4, x5⟩ | go_keep) (first
      | (go_simp; go_at_call 22; (with_reducible refine (HR1.out _ _ HEd.out).mono ?_); rintro e w' ⟨rfl, R', he⟩; have HEd := Lib.hid (HEd.out.trans he); clear he; obtain ⟨x0, x1, x2, x3, x4, x5⟩ := HC.out _ _ HEd.out)
      | (go_simp; go_at_call 22; (with_reducible refine (HR2.out _ _ HEd.out).mono ?_); rintro e w' ⟨rfl, R', he⟩; have HEd := Lib.hid (HEd.out.trans he); clear he; obtain ⟨x0, x1, x2, x3, x4, x5⟩ := HC.out _ _ HEd.out)
      | (go_simp; go_at_call 22; (with_reducible refine (HR3.out _ _ HEd.out).mono ?_); rintro e w' ⟨rfl, R', he⟩; have HEd := Lib.hid (HEd.out.trans he); clear he; obtain ⟨x0, x1, x2, x3, x4, x5⟩ := HC.out _ _ HEd.out)
      | (go_simp; go_at_call 22; (with_reducible refine (HR4.out _ _ HEd.out _ _ HFy.out).mono ?_); rintro e w' ⟨rfl, R', he⟩; have HEd := Lib.hid (HEd.out.trans he); clear he; obtain ⟨x0, x1, x2, x3, x4, x5⟩ := HC.out _ _ HEd.out)
      | (go_simp; go_at_call 40; (with_reducible refine (HCl.out _ _ HEd.out).mono ?_); rintro e w' ⟨ax, cx, rfl, he, hox⟩; rw [HSt.out] at hox ⊢; have HOx := Lib.hid (hox.mono HEd.out.size); have HEd := Lib.hid (HEd.out.trans he); clear he hox; obtain ⟨x0, x1, x2, x3, x4, x5⟩ := HC.out _ _ HEd.out)
      | (go_simp; go_at_call 40; (with_reducible refine (HCl.out _ _ (HEd.out.alloc _)).mono ?_); rintro e w8 ⟨ax, cx, rfl, he, hox⟩; rw [HSt.out] at hox ⊢; have HOx := Lib.hid (hox.mono (HEd.out.alloc _).size); have hzb := blk_evA HEd.out he; have z0 : w8.cell? ⟨w'.heap.size, 0, none⟩ = some (.int .i64 d0) := cells_at hzb 0; have z1 : w8.cell? ⟨w'.heap.size, 1, none⟩ = some (.int .i64 k0) := cells_at hzb 1; have HEd := Lib.hid ((HEd.out.alloc _).trans he); clear he hox hzb; obtain ⟨x0, x1, x2, x3, x4, x5⟩ := HC.out _ _ HEd.out)
      | (refine step_app_step (by rfl) (.tmp 127) (.tmp 131) rfl (HOx.out.alloc _) ?hs w'.heap.size 1 (.int .i64 d0) (.int .i64 k0) rfl rfl ?hx ?hc0 ?hc1 ?hn ?hB ?hR ?_; (case hs => simp [Act.eval]); (case hx => simp [Act.eval]); (case hc0 => simp); (case hc1 => simp); (case hn => omega); (case hB => have := HEd.out.size; simp; omega); (case hR => exact fun q hq => (HEd.out.alloc _).inv.none_of_ge hq); intro v5 w5 ho5 hg5 hs5; obtain ⟨a5, c5, e5, _⟩ := ho5.open; subst e5; have HEd := Lib.hid ((HEd.out.alloc _).appV (HOx.out.alloc _) (Nat.le_refl _) hg5); have HFy := Lib.hid (FreeS.app ho5 HSt.out); clear ho5 hg5 hs5; obtain ⟨x0, x1, x2, x3, x4, x5⟩ := HC.out _ _ HEd.out)
      | (refine step_app_step (by rfl) (.tmp 127) (.tmp 131) rfl HOx.out ?hs w'.heap.size 1 (.int .i64 d0) (.int .i64 k0) rfl rfl ?hx z0 z1 ?hn ?hB ?hR ?_; (case hs => simp [Act.eval]); (case hx => simp [Act.eval]); (case hn => omega); (case hB => exact HEd.out.size); (case hR => exact fun q hq => HEd.out.inv.none_of_ge hq); intro v5 w5 ho5 hg5 hs5; obtain ⟨a5, c5, e5, _⟩ := ho5.open; subst e5; have HEd := Lib.hid (HEd.out.appV HOx.out (Nat.le_refl _) hg5); have HFy := Lib.hid (FreeS.app ho5 HSt.out); clear ho5 hg5 hs5; obtain ⟨x0, x1, x2, x3, x4, x5⟩ := HC.out _ _ HEd.out))
    all_goals (go_wp2_with fail; go_ret)
    all_goals exact ⟨by simp, _, HE3.out.trans (HEk.out.trans HEd.out)⟩

end Go.Proofs.Ytnbecpeiodcohaa
