/- parquetryref11.Turn: is there a way that takes one map to another, root to root? Conditions: the first is of one part; the maps lie in memory. parquetrylaw11.CanonIso, the walk: it answers true. Conditions: the bytes lie in memory. -/
import Derived.Test.YtlbhmonpfchocaaZCanonIso27
import Derived.Test.YtlbhmonpfchocaaZCanonIso28
import Derived.Test.YtlbhmonpfchocaaZCanonIso29
import Derived.Test.YtlbhmonpfchocaaZCanonIso10
import Derived.Test.YtlbhmonpfchocaaZCanonIso24
import Derived.Test.YtlbhmonpfchocaaZCanonIso26
import Derived.Test.YtlbhmonpfchocaaZCanonIso18
import Derived.Test.YtlbhmonpfchocaaZCanonIso11
import Derived.Deep.RegionHeld3
namespace Go.Proofs.Ytlbhmonpfchocaa
open Go.RowKit
set_option linter.unusedVariables false

def lkI (P : List (Nat × Nat)) (j : Int) : Option Int := if 0 ≤ j then (lk P j.toNat).map (fun (v : Nat) => (v : Int)) else none
theorem lkI_nat (P : List (Nat × Nat)) (x : Nat) : lkI P (x : Int) = (lk P x).map (fun (v : Nat) => (v : Int)) := by
  unfold lkI
  rw [if_pos (by omega), Int.toNat_natCast]
theorem lkI_app {P : List (Nat × Nat)} {x y : Nat} (h : lk P x = none) : updF (lkI P) (x : Int) (y : Int) = lkI (P ++ [(x, y)]) := by
  funext j
  by_cases e : j = (x : Int)
  · subst e
    rw [updF_same, lkI_nat, lk_app h, if_pos rfl]; rfl
  · rw [updF_other _ _ _ e]
    by_cases hj : 0 ≤ j
    · obtain ⟨k, rfl⟩ : ∃ k : Nat, j = (k : Int) := ⟨j.toNat, by omega⟩
      rw [lkI_nat, lkI_nat, lk_app h, if_neg (fun h => e (by rw [h]))]
    · unfold lkI; rw [if_neg hj, if_neg hj]
theorem lkI_one (x y : Nat) : updF (fun _ => none) (x : Int) (y : Int) = lkI [(x, y)] := by
  have := lkI_app (P := []) (x := x) (y := y) rfl
  rw [List.nil_append] at this
  rw [← this]
  congr 1
  funext j
  unfold lkI
  split <;> rfl
def keysI (P : List (Nat × Nat)) (h : Nat) : List Int := toI ((P.map Prod.fst).drop h)
theorem keysI_length (P : List (Nat × Nat)) (h : Nat) : (keysI P h).length = P.length - h := by simp [keysI, toI_length]
theorem keysI_app (P : List (Nat × Nat)) (h x y : Nat) (hh : h ≤ P.length) : keysI P h ++ [(x : Int)] = keysI (P ++ [(x, y)]) h := by
  unfold keysI
  rw [List.map_append, List.drop_append_of_le_length (by simpa using hh)]
  simp [toI]
theorem keysI_cons {P : List (Nat × Nat)} {h : Nat} (hh : h < P.length) : keysI P h = ((P[h].1 : Nat) : Int) :: keysI P (h + 1) := by
  unfold keysI
  rw [List.drop_eq_getElem_cons (by simpa using hh)]
  simp [toI]

def cbL (P : List (Nat × Nat)) (n : Nat) (lf : Int → Bool) : List Nat := (List.range n).map fun y => cb P (fun x => lf (x : Int)) y
theorem cbL_length (P : List (Nat × Nat)) (n : Nat) (lf : Int → Bool) : (cbL P n lf).length = n := by simp [cbL]
theorem cbL_at {P : List (Nat × Nat)} {n : Nat} {lf : Int → Bool} {y : Nat} (h : y < n) : at' (cbL P n lf) y = cb P (fun x => lf (x : Int)) y := by simp [cbL, at', h]
theorem cbL_step {P : List (Nat × Nat)} (hn : (P.map Prod.fst).Nodup) {n : Nat} {lf : Int → Bool} {x y : Nat} (hy : y < n) (h : (x, y) ∈ P) (hl : lf (x : Int) = true) :
    (cbL P n lf).set y (at' (cbL P n lf) y + 1) = cbL P n (fun j => lf j && !decide (j = (x : Int))) := by
  refine List.ext_getElem (by simp [cbL]) fun j h1 h2 => ?_
  have hj : j < n := by simp [cbL] at h2; exact h2
  have hst := cb_step hn (lf := fun x => lf (x : Int)) h hl j
  have e1 : (fun (j : Nat) => lf (j : Int) && !decide (j = x)) = fun (j : Nat) => lf (j : Int) && !decide ((j : Int) = (x : Int)) := by
    funext j
    congr 2
    exact decide_eq_decide.2 (by omega)
  rw [e1] at hst
  rw [List.getElem_set]
  by_cases e : y = j
  · subst e
    rw [if_pos rfl, cbL_at hy]
    simp only [cbL, List.getElem_map, List.getElem_range]
    rw [hst, if_pos rfl]
  · rw [if_neg e]
    simp only [cbL, List.getElem_map, List.getElem_range]
    rw [hst, if_neg (fun h => e h.symm)]
    rfl

/-- the way, followed as far as h, and the step of the turn done at h (k: 1) -/
structure TWay (S T : List Nat) (a b : Nat) (P : List (Nat × Nat)) (h : Nat) : Prop where
  inv : TInv S T a b P
  le : h ≤ P.length
  clo : ∀ i, (hi : i < P.length) → i < h → (at' S P[i].1, at' T P[i].2) ∈ P ∧ (P[i].1 ^^^ 1, P[i].2 ^^^ 1) ∈ P
theorem TWay.add {S T : List Nat} {a b : Nat} {P : List (Nat × Nat)} {h : Nat} (w : TWay S T a b P h) {x y : Nat} (hx : x < S.length) (hy : y < S.length) (hxy : ∀ t, Iso S T a b t → at' t x = y) (hn : lk P x = none) : TWay S T a b (P ++ [(x, y)]) h := by
  refine ⟨w.inv.add hx hy hxy hn, by rw [List.length_append]; have := w.le; omega, fun i hi hih => ?_⟩
  have hil : i < P.length := by have := w.le; omega
  have := w.clo i hil hih
  rw [List.getElem_append_left hil]
  exact ⟨List.mem_append_left _ this.1, List.mem_append_left _ this.2⟩

set_option maxRecDepth 100000 in
set_option maxHeartbeats 4000000 in
theorem r11turn_any (R : Reg) (w : World) (hI : Inv R w) (v u : Value) (S T : List Nat) (ra rb : Int) (hv : FreeI R w v (toI S)) (hu : FreeI R w u (toI T)) (hS : IsPerm S) (hT : IsPerm T) (hokS : MapOk S ra 0) (hokT : MapOk T rb 0) (hnS : S.length ≤ 1000) (hnT : T.length ≤ 1000) (h1 : partsN S ≤ 1) :
    Calls Try.prog 30 #[refV v ra 0, refV u rb 0] w (RetE R w (.bool (decide (canM S ra = canM T rb)))) := by
  obtain ⟨a0, c0, rfl, _⟩ := hv.open
  obtain ⟨a1, c1, rfl, _⟩ := hu.open
  simp only [toI_length] at hv hu ⊢
  unfold refV
  have hclS : (canM S ra).length = S.length := by unfold canM; split; · rfl
                                                  · exact relL_length _ _
  have hclT : (canM T rb).length = T.length := by unfold canM; split; · rfl
                                                  · exact relL_length _ _
  have he1 : Ev R w R (w.alloc (.cells #[.slice a0 S.length c0, .int .i64 ra, .int .i64 0] 34)) := (Ev.refl hI).alloc _
  have he2 : Ev R (w.alloc (.cells #[.slice a0 S.length c0, .int .i64 ra, .int .i64 0] 34)) R ((w.alloc (.cells #[.slice a0 S.length c0, .int .i64 ra, .int .i64 0] 34)).alloc (.cells #[.slice a1 T.length c1, .int .i64 rb, .int .i64 0] 34)) := (Ev.refl he1.inv).alloc _
  have hnx : R w.heap.size = none := hI.none_of_ge (Nat.le_refl _)
  have hny : R (w.alloc (.cells #[.slice a0 S.length c0, .int .i64 ra, .int .i64 0] 34)).heap.size = none := he1.inv.none_of_ge (Nat.le_refl _)
  have hX := fun w' (h : Ev R ((w.alloc (.cells #[.slice a0 S.length c0, .int .i64 ra, .int .i64 0] 34)).alloc (.cells #[.slice a1 T.length c1, .int .i64 rb, .int .i64 0] 34)) R w') => (he2.trans h).boxC3 (heap_alloc_new w (.cells #[.slice a0 S.length c0, .int .i64 ra, .int .i64 0] 34)) hnx
  have hY := fun w' (h : Ev R ((w.alloc (.cells #[.slice a0 S.length c0, .int .i64 ra, .int .i64 0] 34)).alloc (.cells #[.slice a1 T.length c1, .int .i64 rb, .int .i64 0] 34)) R w') => h.boxC3 (heap_alloc_new (w.alloc (.cells #[.slice a0 S.length c0, .int .i64 ra, .int .i64 0] 34)) (.cells #[.slice a1 T.length c1, .int .i64 rb, .int .i64 0] 34)) hny
  have hmm := @run_makeMap Try.prog
  go_enter Try.func30, Try.ntmps30
  go_upto_region 1 with fail
  obtain ⟨wa, hwa⟩ : ∃ wa, (w.alloc (.cells #[.slice a0 S.length c0, .int .i64 ra, .int .i64 0] 34)).alloc (.cells #[.slice a1 T.length c1, .int .i64 rb, .int .i64 0] 34) = wa := ⟨_, rfl⟩
  obtain ⟨bx, hbx⟩ : ∃ x, w.heap.size = x := ⟨_, rfl⟩
  obtain ⟨bY, hbY⟩ : ∃ x, (w.alloc (.cells #[.slice a0 S.length c0, .int .i64 ra, .int .i64 0] 34)).heap.size = x := ⟨_, rfl⟩
  have hbY2 : w.heap.size + 1 = bY := by rw [← hbY]; simp
  have hEa : Ev R w R wa := by rw [← hwa]; exact he1.trans he2
  rw [hwa] at hX hY ⊢
  rw [hbx] at hX hbY2 ⊢
  rw [hbY] at hY
  try rw [hbY2]
  have HX := Lib.hid hX
  have HY := Lib.hid hY
  have HEa := Lib.hid hEa
  have HV := Lib.hid (hv.ev hEa)
  have HU := Lib.hid (hu.ev hEa)
  have HS := Lib.hid hS
  have HT := Lib.hid hT
  have HokS := Lib.hid hokS
  have HokT := Lib.hid hokT
  have HclS := Lib.hid hclS
  have HclT := Lib.hid hclT
  clear hX hY hEa hv hu hS hT hokS hokT hclS hclT he1 he2 hnx hny hwa hbx hbY hbY2 hI
  obtain ⟨x0, x1, x2, _⟩ := boxC_cells (HX.out _ (Ev.refl HEa.out.inv)).1
  obtain ⟨y0, y1, y2, _⟩ := boxC_cells (HY.out _ (Ev.refl HEa.out.inv)).1
  by_cases hlen : S.length = T.length
  · obtain ⟨n, hn⟩ : ∃ n, S.length = n := ⟨_, rfl⟩
    have HN := Lib.hid hn
    have HNT := Lib.hid (hlen.symm.trans hn)
    rw [← hlen] at y0 HU HY hnT
    rw [hn] at x0 y0 HX HY HV HU hnS hnT
    clear hlen hn
    by_cases h0 : n = 0
    · subst h0
      have hres : decide (canM S ra = canM T rb) = true := by
        have e1 := List.eq_nil_of_length_eq_zero (HclS.out.trans HN.out)
        have e2 := List.eq_nil_of_length_eq_zero (HclT.out.trans HNT.out)
        rw [e1, e2]; rfl
      go_wp2_with fail
      go_ret
      exact ⟨by rw [hres]; rfl, HEa.out⟩
    · obtain ⟨a, rfl, ha⟩ : ∃ a : Nat, ra = (a : Int) ∧ a < n := ⟨ra.toNat, by have := HokS.out.2.2.2.2; have := HN.out; omega, by have := HokS.out.2.2.2.2; have := HN.out; omega⟩
      obtain ⟨b, rfl, hb⟩ : ∃ b : Nat, rb = (b : Int) ∧ b < n := ⟨rb.toNat, by have := HokT.out.2.2.2.2; have := HNT.out; omega, by have := HokT.out.2.2.2.2; have := HNT.out; omega⟩
      have hc := can_iso HS.out HokS.out.1 HT.out (by rw [HN.out, HNT.out]) (a := a) (b := b) (by rw [HN.out]; exact ha) (by rw [HN.out]; exact hb) h1
      have e1 : canM S (a : Int) = relL S (canL S a) := by unfold canM; rw [if_neg (by rw [HN.out]; exact h0), Int.toNat_natCast]
      have e2 : canM T (b : Int) = relL T (canL T b) := by unfold canM; rw [if_neg (by rw [HNT.out]; exact h0), Int.toNat_natCast]
      rw [← e1, ← e2] at hc
      have HRes := Lib.hid hc
      have H1 := Lib.hid h1
      clear hc e1 e2 h1 hnT
      have hnb : ((n : Int) == 0) = false := by simp; omega
      have HM0 := Lib.hid (FMap.made HEa.out.inv)
      have HEm := Lib.hid ((Ev.refl HEa.out.inv).alloc (.map #[] 0))
      obtain ⟨bm, hbm⟩ : ∃ x, wa.heap.size = x := ⟨_, rfl⟩
      rw [hbm] at HM0
      have HBm := Lib.hid hbm
      obtain ⟨w2, hw2⟩ : ∃ x, wa.alloc (.map #[] 0) = x := ⟨_, rfl⟩
      rw [hw2] at HM0 HEm
      have hbl : bm < w2.heap.size := HM0.out.lt
      clear x0 x1 x2 y0 y1 y2
      obtain ⟨x0, x1, x2, _⟩ := boxC_cells (HX.out _ (Ev.refl HEa.out.inv)).1
      obtain ⟨y0, y1, y2, _⟩ := boxC_cells (HY.out _ (Ev.refl HEa.out.inv)).1
      go_upto_region 5 with fail
      clear x0 x1 x2 y0 y1 y2
      obtain ⟨x0, x1, x2, _⟩ := boxC_cells (HX.out _ HEm.out).1
      obtain ⟨y0, y1, y2, _⟩ := boxC_cells (HY.out _ HEm.out).1
      go_upto_region 6 with (first | (refine wpList_fins rfl _ _ _ rfl HM0.out (by omega) (a : Int) (b : Int) rfl rfl rfl (by omega) (by omega) ?_; intro w3 hm3 hg3) | fail)
      rw [lkI_one] at hm3
      simp only [Option.isSome_none, Bool.false_eq_true, if_false, Nat.zero_add] at hm3
      have HM3 := Lib.hid hm3
      have HE3 := Lib.hid (HEm.out.mput HM0.out (by rw [HBm.out]; exact Nat.le_refl _) hg3)
      clear hm3 hg3 hw2 hbm x0 x1 x2 y0 y1 y2
      obtain ⟨x0, x1, x2, _⟩ := boxC_cells (HX.out _ HE3.out).1
      have hbl3 := HM3.out.lt
      have HQ0 : Hid (QI R bm bm (w3.alloc (.cells #[.int .i64 (a : Int)] 3)) (.slice (some ⟨w3.heap.size, 0, none⟩) 1 1) (keysI [(a, b)] 0)) := Lib.hid (QI.of_own (OwnI.lit HE3.out.inv (by omega) (a : Int)) (by exact Nat.zero_lt_one) (fun e => by injection (show some w3.heap.size = some bm from e) with e; omega))
      have HE4 := Lib.hid (HE3.out.alloc (.cells #[.int .i64 (a : Int)] 3))
      have HM4 := Lib.hid (HM3.out.alloc (.cells #[.int .i64 (a : Int)] 3))
      have HWay0 : Hid (TWay S T a b [(a, b)] 0) := Lib.hid ⟨TInv.start (by rw [HN.out]; exact ha) (by rw [HN.out]; exact hb), by simp, fun i hi h => by omega⟩
      clear x0 x2
      clear hbl3 hbl
      go_wp2_with fail
      clear x1
      go_loopg [6] n (fun g v6 wr => ∃ (P : List (Nat × Nat)) (h : Nat), n - h ≤ g ∧ TWay S T a b P h ∧ Ev R wa R wr ∧ FMap R wr bm P.length (lkI P) P.length ∧ QI R bm bm wr v6 (keysI P h))
      case atStart => exact ⟨[(a, b)], 0, by omega, HWay0.out, HE4.out, HM4.out, HQ0.out⟩
      case round =>
        clear HWay0 HE4 HM4 HQ0 HE3 HM3 HEm HM0
        obtain ⟨P, h, hg, hway, hev, hfm, hqi⟩ := hrel
        have HWay := Lib.hid hway
        have HEr := Lib.hid hev
        have HMr := Lib.hid hfm
        have hPn := hway.inv.length
        rw [HN.out] at hPn
        by_cases hh : h < P.length
        · rw [keysI_cons hh] at hqi
          obtain ⟨d, hd⟩ : ∃ x, P[h].1 = x := ⟨_, rfl⟩
          obtain ⟨e, he⟩ : ∃ x, P[h].2 = x := ⟨_, rfl⟩
          have hmem : (d, e) ∈ P := by
            have := List.getElem_mem hh
            rw [show P[h] = (d, e) from Prod.ext hd he] at this
            exact this
          have hlt := hway.inv.lt _ hmem
          rw [HN.out] at hlt
          obtain ⟨hdn, hen⟩ := hlt
          have hdn : d < n := hdn
          have hen : e < n := hen
          rw [hd] at hqi
          obtain ⟨g, off, cap, rfl, hcap, hc, hq, hq0⟩ := hqi.head
          obtain ⟨l1, hl1⟩ : ∃ x, (keysI P (h + 1)).length = x := ⟨_, rfl⟩
          rw [hl1] at hq hq0 hcap ⊢
          have HQ := Lib.hid hq
          have HQz := Lib.hid hq0
          have hPh : P[h]? = some (d, e) := by rw [List.getElem?_eq_getElem hh]; exact congrArg some (Prod.ext hd he)
          have HPh := Lib.hid hPh
          have HHh := Lib.hid hh
          have hl1n : l1 ≤ 1000 := by rw [keysI_length] at hl1; omega
          have hgt : (0 : Int) < ((l1 + 1 : Nat) : Int) := by omega
          clear hqi hq hq0 hway hev hfm hd he hmem hl1 hPh
          go_upto_region 9 with fail
          go_cut [6] (fun s6 wx => wx = wr ∧ QI R bm bm wr s6 (keysI P (h + 1)))
          case first =>
            go_wp2_with fail
            all_goals go_meet
            all_goals first | exact ⟨rfl, HQ.out⟩ | exact ⟨rfl, by have hz := HQz.out (by omega); rw [show cap - 1 = 0 by omega] at hz; exact hz⟩
          case rest =>
            obtain ⟨rfl, hqc⟩ := hcut
            obtain ⟨wr, hwr⟩ : ∃ x, x = wc := ⟨_, rfl⟩
            subst hwr
            have HQc := Lib.hid hqc
            clear hqc hc hcap hgt HQ HQz
            have hPhl : h < P.length := HHh.out
            go_wp2_with fail
            go_loopg [6, 8] 2 (fun g2 v6 v8 wq => ∃ (k : Nat) (P2 : List (Nat × Nat)), k ≤ 2 ∧ 2 - k ≤ g2 ∧ v8 = .int .i64 (k : Int) ∧ TWay S T a b P2 h ∧ P2[h]? = some (d, e) ∧ Ev R wa R wq ∧ FMap R wq bm P2.length (lkI P2) P2.length ∧ QI R bm bm wq v6 (keysI P2 (h + 1)) ∧ (1 ≤ k → (at' S d, at' T e) ∈ P2) ∧ (2 ≤ k → (d ^^^ 1, e ^^^ 1) ∈ P2))
            case atStart => exact ⟨0, P, by omega, by omega, rfl, HWay.out, HPh.out, HEr.out, HMr.out, HQc.out, fun h => by omega, fun h => by omega⟩
            case round =>
              clear HWay HEr HMr HQc HPh HHh hPhl hPn hl1n
              obtain ⟨k, P2, hk2, hg2, rfl, hway, hph, hev, hfm, hqi, hm1, hm2⟩ := hrel
              have HWay := Lib.hid hway
              have HPh := Lib.hid hph
              have HEr := Lib.hid hev
              have HMr := Lib.hid hfm
              have HQ := Lib.hid hqi
              have HM1 := Lib.hid hm1
              have hPn := hway.inv.length
              rw [HN.out] at hPn
              have hhl : h < P2.length := (List.getElem?_eq_some_iff.1 hph).1
              have hmem : (d, e) ∈ P2 := List.mem_of_getElem? hph
              have HMem := Lib.hid hmem
              have hlkd : lk P2 d = some e := (lk_iff hway.inv.nd).2 hmem
              have hwr : bm ≤ wr.heap.size := by have := HEr.out.size; rw [HBm.out] at this; exact this
              have hlook := fun w' (hw' : Ev R wr R w') => FMap.look (w := w') (hfm.ev hw') (d : Int) (by omega)
              rw [lkI_nat, hlkd] at hlook
              simp only [Option.map_some, Option.getD_some] at hlook
              have HLook := Lib.hid hlook
              have hSl : ∀ x, x < n → at' S x < n := fun x hx => by have := HS.out.lt (i := x) (by rw [HN.out]; exact hx); rw [HN.out] at this; exact this
              have hTl : ∀ x, x < n → at' T x < n := fun x hx => by have := HT.out.lt (i := x) (by rw [HNT.out]; exact hx); rw [HNT.out] at this; exact this
              have hphi : ∀ t, Iso S T a b t → at' t d = e := fun t ht => hway.inv.iso t ht _ hmem
              have HPhi := Lib.hid hphi
              clear hway hph hev hfm hqi hm1 hmem hlkd hlook hphi
              by_cases hkk : k = 0
              · subst hkk
                clear hm2
                obtain ⟨x, hx⟩ : ∃ x, at' S d = x := ⟨_, rfl⟩
                obtain ⟨y, hy⟩ : ∃ y, at' T e = y := ⟨_, rfl⟩
                have hxn := hSl d hdn
                have hyn := hTl e hen
                rw [hx] at hxn
                rw [hy] at hyn
                have hxy : ∀ t, Iso S T a b t → at' t x = y := fun t ht => by
                  have h1 := ht.turn (x := d) (by rw [HN.out]; exact hdn)
                  rw [HPhi.out t ht, hy, hx] at h1
                  exact h1.symm
                obtain ⟨gS, oS, rfl, hcS⟩ := (HV.out.ev HEr.out).at (i := d) (by rw [HN.out]; exact hdn)
                obtain ⟨gT, oT, rfl, hcT⟩ := (HU.out.ev HEr.out).at (i := e) (by rw [HNT.out]; exact hen)
                rw [hx] at hcS
                rw [hy] at hcT
                obtain ⟨x0, _, _, _⟩ := boxC_cells (HX.out _ HEr.out).1
                obtain ⟨y0, _, _, _⟩ := boxC_cells (HY.out _ HEr.out).1
                have hd1 : (d : Int) < (n : Int) := by omega
                have he1 : (e : Int) < (n : Int) := by omega
                have hlk1 : (Instr.lookup 108 (.map (some bm)) (.int .i64 (d : Int)) false).run Try.prog wr.drew = .ok (.int .i64 (e : Int)) wr.drew := HLook.out _ (Ev.refl HEr.out.inv).drew
                have HXY := Lib.hid hxy
                have HXe := Lib.hid hx
                have HYe := Lib.hid hy
                have HV2 := Lib.hid HV.out
                clear hxy hx hy hSl hTl
                go_upto_region 13 with fail
                go_region
                go_upto_region 16 with fail
                obtain ⟨w5, hw5⟩ : ∃ x, x = wr.drew := ⟨_, rfl⟩
                have HE5 : Hid (Ev R wa R w5) := Lib.hid (by rw [hw5]; exact HEr.out.drew)
                have HM5 : Hid (FMap R w5 bm P2.length (lkI P2) P2.length) := Lib.hid (by rw [hw5]; exact HMr.out)
                have HQ5 : Hid (QI R bm bm w5 _ (keysI P2 (h + 1))) := Lib.hid (by rw [hw5]; exact HQ.out)
                rw [← hw5]
                have hok := HM5.out.lookOk (x : Int) (by omega)
                rw [lkI_nat] at hok
                clear hw5 HEr HMr HQ
                cases hl : lk P2 x with
                | some z =>
                  rw [hl] at hok
                  simp only [Option.map_some, Option.getD_some, Option.isSome_some] at hok
                  have hmz := (lk_iff HWay.out.inv.nd).1 hl
                  by_cases hzy : z = y
                  · subst hzy
                    have hne : ((z : Int) != (z : Int)) = false := by simp
                    have HMz := Lib.hid hmz
                    clear hmz
                    go_wp2_with fail
                    go_roundg (2 - (0 + 1))
                    case measure => omega
                    case rel => exact ⟨0 + 1, P2, by omega, by omega, by go_num, HWay.out, HPh.out, HE5.out, HM5.out, HQ5.out, fun _ => by rw [HXe.out, HYe.out]; exact HMz.out, fun h => by omega⟩
                  · have hne : ((z : Int) != (y : Int)) = true := by simp; omega
                    have HCl := Lib.hid (HWay.out.inv.clash HXY.out hl hzy)
                    clear hmz
                    go_wp2_with fail
                    go_ret
                    exact ⟨by rw [decide_eq_false (fun h => HCl.out (HRes.out.1 h))]; rfl, HEa.out.trans HE5.out⟩
                | none =>
                  rw [hl] at hok
                  simp only [Option.map_none, Option.getD_none, Option.isSome_none] at hok
                  have hnn : (lkI P2 (x : Int)).isSome = false := by rw [lkI_nat, hl]; rfl
                  have HNn := Lib.hid hnn
                  have HHl := Lib.hid hl
                  clear hnn hl
                  go_upto_region 21 with (first | (at_mapUpdate; refine wpList_fput rfl _ _ _ rfl HM5.out (by omega) (x : Int) (y : Int) rfl rfl rfl (by omega) (by omega) ?_; intro w6 hm6 hg6) | fail)
                  rw [HNn.out, lkI_app HHl.out] at hm6
                  simp only [Bool.false_eq_true, if_false] at hm6
                  have HE6 := Lib.hid (HE5.out.mput HM5.out (by rw [HBm.out]; exact Nat.le_refl _) hg6)
                  have HQ6 := Lib.hid ((HQ5.out.kept hg6).alloc (.cells #[.int .i64 (x : Int)] 3))
                  have HM6 := Lib.hid hm6
                  have hbm6 : bm < w6.heap.size := hm6.lt
                  have HEb := Lib.hid (HE6.out.alloc (.cells #[.int .i64 (x : Int)] 3))
                  have hkl : (keysI P2 (h + 1)).length + 1 ≤ 8388608 := by rw [keysI_length]; omega
                  have HKl := Lib.hid hkl
                  have HKa := Lib.hid (keysI_app P2 (h + 1) x y (by omega))
                  clear hm6 hg6 hok HE5 HM5 HQ5 hkl
                  go_wp2_with (at_builtin; refine wpList_app_q (R := R) (B := bm) (bm := bm) rfl _ _ rfl HQ6.out rfl ⟨w6.heap.size, 0, none⟩ 1 (x : Int) rfl ?b0 ?b1 ?b2 ?b3 ?b4 ?_)
                  case b0 => simp [Addr.add]
                  case b1 => exact HKl.out
                  case b2 => first | omega | (simp; omega)
                  case b3 => exact fun q hq => HEb.out.inv.none_of_ge (by first | exact hq | (simp at hq ⊢; omega))
                  case b4 => first | omega | (simp; omega)
                  intro v7 w7 g7 hq7 hg7 hB7 hb7 hR7
                  rw [HKa.out] at hq7
                  have HQ7 := Lib.hid hq7
                  have HE7 : Hid (Ev R wa R w7) := Lib.hid (HEb.out.grown hg7 (fun k hk => by injection hk with hk; subst hk; exact ⟨by rw [HBm.out]; exact hB7, hR7⟩))
                  have HM7 : Hid (FMap R w7 bm (P2.length + 1) (lkI (P2 ++ [(x, y)])) (P2.length + 1)) := Lib.hid ((HM6.out.alloc _).kept hg7 (fun e => hb7 (by injection e)))
                  have HWn := Lib.hid (HWay.out.add (x := x) (y := y) (by rw [HN.out]; exact hxn) (by rw [HN.out]; exact hyn) HXY.out HHl.out)
                  have hph3 : (P2 ++ [(x, y)])[h]? = some (d, e) := by rw [List.getElem?_append_left hhl]; exact HPh.out
                  have HPh3 := Lib.hid hph3
                  have hmx : (x, y) ∈ P2 ++ [(x, y)] := by simp
                  have HMx := Lib.hid hmx
                  clear hq7 hg7 hB7 hb7 hR7 hph3 hmx HQ6 HM6 HE6 HEb
                  go_wp2_with fail
                  go_roundg (2 - (0 + 1))
                  case measure => omega
                  case rel => exact ⟨0 + 1, P2 ++ [(x, y)], by omega, by omega, by go_num, HWn.out, HPh3.out, HE7.out, by rw [List.length_append]; exact HM7.out, HQ7.out, fun _ => by rw [HXe.out, HYe.out]; exact HMx.out, fun h => by omega⟩
              · by_cases hkk1 : k = 1
                · subst hkk1
                  clear hm2 hkk
                  obtain ⟨x, hx⟩ : ∃ x, d ^^^ 1 = x := ⟨_, rfl⟩
                  obtain ⟨y, hy⟩ : ∃ y, e ^^^ 1 = y := ⟨_, rfl⟩
                  have hxn := xor_one_lt (n := n) (by rw [← HN.out]; exact HokS.out.1) hdn
                  have hyn := xor_one_lt (n := n) (by rw [← HN.out]; exact HokS.out.1) hen
                  rw [hx] at hxn
                  rw [hy] at hyn
                  have hxy : ∀ t, Iso S T a b t → at' t x = y := fun t ht => by
                    have h1 := ht.mates d (by rw [ht.len, HN.out]; exact hdn)
                    rw [HPhi.out t ht, hx, hy] at h1
                    exact h1
                  obtain ⟨gS, oS, rfl, hcS⟩ := (HV.out.ev HEr.out).at (i := d) (by rw [HN.out]; exact hdn)
                  obtain ⟨gT, oT, rfl, hcT⟩ := (HU.out.ev HEr.out).at (i := e) (by rw [HNT.out]; exact hen)
                  obtain ⟨x0, _, _, _⟩ := boxC_cells (HX.out _ HEr.out).1
                  obtain ⟨y0, _, _, _⟩ := boxC_cells (HY.out _ HEr.out).1
                  have hd1 : (d : Int) < (n : Int) := by omega
                  have he1 : (e : Int) < (n : Int) := by omega
                  have hlk1 : (Instr.lookup 108 (.map (some bm)) (.int .i64 (d : Int)) false).run Try.prog wr.drew = .ok (.int .i64 (e : Int)) wr.drew := HLook.out _ (Ev.refl HEr.out.inv).drew
                  have HXY := Lib.hid hxy
                  have HXe := Lib.hid hx
                  have HYe := Lib.hid hy
                  have hma := fun w' => rmate_any w' d (by omega)
                  have hmb := fun w' => rmate_any w' e (by omega)
                  simp only [hx, hy] at hma hmb
                  have HMa := Lib.hid hma
                  have HMb := Lib.hid hmb
                  clear hxy hx hy hSl hTl hma hmb
                  go_upto_region 13 with fail
                  go_region
                  go_upto_region 15 with fail
                  obtain ⟨w4, hw4⟩ : ∃ x, x = wr.drew := ⟨_, rfl⟩
                  have HE4 : Hid (Ev R wa R w4) := Lib.hid (by rw [hw4]; exact HEr.out.drew)
                  have HEw : Hid (Ev R wr R w4) := Lib.hid (by rw [hw4]; exact (Ev.refl HEr.out.inv).drew)
                  have HM4 : Hid (FMap R w4 bm P2.length (lkI P2) P2.length) := Lib.hid (by rw [hw4]; exact HMr.out)
                  have HQ4 := Lib.hid (HQ.out.ev HEw.out)
                  rw [← hw4]
                  have hlk2 := fun nq => HLook.out _ (HEw.out.drewN nq)
                  clear hw4 HEr HMr HQ hlk1 x0 y0 hcS hcT
                  go_quiet (first | (go_at_call 65; first | ((with_reducible refine (HMa.out _).mono ?_); rintro e w' ⟨rfl, rfl⟩; exact ⟨rfl, _, rfl⟩) | ((with_reducible refine (HMb.out _).mono ?_); rintro e w' ⟨rfl, rfl⟩; exact ⟨rfl, _, rfl⟩)))
                  go_upto_region 16 with fail
                  obtain ⟨w5, hw5⟩ : ∃ x, x = w4.drewN nq := ⟨_, rfl⟩
                  have HE5 : Hid (Ev R wa R w5) := Lib.hid (by rw [hw5]; exact HE4.out.drewN nq)
                  have HM5 : Hid (FMap R w5 bm P2.length (lkI P2) P2.length) := Lib.hid (by rw [hw5]; exact HM4.out)
                  have HQ5 : Hid (QI R bm bm w5 _ (keysI P2 (h + 1))) := Lib.hid (by rw [hw5]; exact HQ4.out)
                  rw [← hw5]
                  have hok := HM5.out.lookOk (x : Int) (by omega)
                  rw [lkI_nat] at hok
                  clear hw5 HE4 HM4 HQ4
                  cases hl : lk P2 x with
                  | some z =>
                    rw [hl] at hok
                    simp only [Option.map_some, Option.getD_some, Option.isSome_some] at hok
                    have hmz := (lk_iff HWay.out.inv.nd).1 hl
                    by_cases hzy : z = y
                    · subst hzy
                      have hne : ((z : Int) != (z : Int)) = false := by simp
                      have HMz := Lib.hid hmz
                      clear hmz
                      go_wp2_with fail
                      go_roundg (2 - (1 + 1))
                      case measure => omega
                      case rel => exact ⟨1 + 1, P2, by omega, by omega, by go_num, HWay.out, HPh.out, HE5.out, HM5.out, HQ5.out, fun _ => HM1.out (by omega), fun _ => by rw [HXe.out, HYe.out]; exact HMz.out⟩
                    · have hne : ((z : Int) != (y : Int)) = true := by simp; omega
                      have HCl := Lib.hid (HWay.out.inv.clash HXY.out hl hzy)
                      clear hmz
                      go_wp2_with fail
                      go_ret
                      exact ⟨by rw [decide_eq_false (fun h => HCl.out (HRes.out.1 h))]; rfl, HEa.out.trans HE5.out⟩
                  | none =>
                    rw [hl] at hok
                    simp only [Option.map_none, Option.getD_none, Option.isSome_none] at hok
                    have hnn : (lkI P2 (x : Int)).isSome = false := by rw [lkI_nat, hl]; rfl
                    have HNn := Lib.hid hnn
                    have HHl := Lib.hid hl
                    clear hnn hl
                    go_upto_region 21 with (first | (at_mapUpdate; refine wpList_fput rfl _ _ _ rfl HM5.out (by omega) (x : Int) (y : Int) rfl rfl rfl (by omega) (by omega) ?_; intro w6 hm6 hg6) | fail)
                    rw [HNn.out, lkI_app HHl.out] at hm6
                    simp only [Bool.false_eq_true, if_false] at hm6
                    have HE6 := Lib.hid (HE5.out.mput HM5.out (by rw [HBm.out]; exact Nat.le_refl _) hg6)
                    have HQ6 := Lib.hid ((HQ5.out.kept hg6).alloc (.cells #[.int .i64 (x : Int)] 3))
                    have HM6 := Lib.hid hm6
                    have hbm6 : bm < w6.heap.size := hm6.lt
                    have HEb := Lib.hid (HE6.out.alloc (.cells #[.int .i64 (x : Int)] 3))
                    have hkl : (keysI P2 (h + 1)).length + 1 ≤ 8388608 := by rw [keysI_length]; omega
                    have HKl := Lib.hid hkl
                    have HKa := Lib.hid (keysI_app P2 (h + 1) x y (by omega))
                    clear hm6 hg6 hok HE5 HM5 HQ5 hkl
                    go_wp2_with (at_builtin; refine wpList_app_q (R := R) (B := bm) (bm := bm) rfl _ _ rfl HQ6.out rfl ⟨w6.heap.size, 0, none⟩ 1 (x : Int) rfl ?b0 ?b1 ?b2 ?b3 ?b4 ?_)
                    case b0 => simp [Addr.add]
                    case b1 => exact HKl.out
                    case b2 => first | omega | (simp; omega)
                    case b3 => exact fun q hq => HEb.out.inv.none_of_ge (by first | exact hq | (simp at hq ⊢; omega))
                    case b4 => first | omega | (simp; omega)
                    intro v7 w7 g7 hq7 hg7 hB7 hb7 hR7
                    rw [HKa.out] at hq7
                    have HQ7 := Lib.hid hq7
                    have HE7 : Hid (Ev R wa R w7) := Lib.hid (HEb.out.grown hg7 (fun k hk => by injection hk with hk; subst hk; exact ⟨by rw [HBm.out]; exact hB7, hR7⟩))
                    have HM7 : Hid (FMap R w7 bm (P2.length + 1) (lkI (P2 ++ [(x, y)])) (P2.length + 1)) := Lib.hid ((HM6.out.alloc _).kept hg7 (fun e => hb7 (by injection e)))
                    have HWn := Lib.hid (HWay.out.add (x := x) (y := y) (by rw [HN.out]; exact hxn) (by rw [HN.out]; exact hyn) HXY.out HHl.out)
                    have hph3 : (P2 ++ [(x, y)])[h]? = some (d, e) := by rw [List.getElem?_append_left hhl]; exact HPh.out
                    have HPh3 := Lib.hid hph3
                    have hmx : (x, y) ∈ P2 ++ [(x, y)] := by simp
                    have HMx := Lib.hid hmx
                    clear hq7 hg7 hB7 hb7 hR7 hph3 hmx HQ6 HM6 HE6 HEb
                    go_wp2_with fail
                    go_roundg (2 - (1 + 1))
                    case measure => omega
                    case rel => exact ⟨1 + 1, P2 ++ [(x, y)], by omega, by omega, by go_num, HWn.out, HPh3.out, HE7.out, by rw [List.length_append]; exact HM7.out, HQ7.out, fun _ => List.mem_append_left _ (HM1.out (by omega)), fun _ => by rw [HXe.out, HYe.out]; exact HMx.out⟩
                · obtain rfl : k = 2 := by omega
                  have m1 := HM1.out (by omega)
                  have m2 := hm2 (by omega)
                  have HWz : Hid (TWay S T a b P2 (h + 1)) := Lib.hid ⟨HWay.out.inv, by omega, fun i hi hih => by
                    by_cases e1 : i = h
                    · subst e1
                      have hpe : P2[i] = (d, e) := by
                        have := HPh.out
                        rw [List.getElem?_eq_getElem hi] at this
                        injection this
                      rw [hpe]
                      exact ⟨m1, m2⟩
                    · exact HWay.out.clo i hi (by omega)⟩
                  clear m1 m2 hm2 hSl hTl
                  go_wp2_with fail
                  go_roundg (n - (h + 1))
                  case measure => omega
                  case rel => exact ⟨P2, h + 1, by omega, HWz.out, HEr.out, HMr.out, HQ.out⟩
        · have hhe : h = P.length := by have := hway.le; omega
          have hfin := hway.inv.fin HS.out HokS.out.1 (by rw [HN.out, HNT.out]) (by rw [HN.out]; exact ha) H1.out (fun p hp => by
            obtain ⟨i, hi, rfl⟩ := List.getElem_of_mem hp
            exact hway.clo i hi (by omega))
          rw [HN.out] at hfin
          have HFin := Lib.hid hfin
          have HInv := Lib.hid hway.inv
          have hkl : (keysI P h).length = 0 := by rw [keysI_length]; omega
          obtain ⟨gq, oq, cq, _, rfl, _⟩ := hqi
          rw [hkl]
          obtain ⟨wz, hwz⟩ : ∃ x, x = wr := ⟨_, rfl⟩
          subst hwz
          obtain ⟨y0, _, _, _⟩ := boxC_cells (HY.out _ HEr.out).1
          obtain ⟨i0, hi, hz0, hz1, hz2⟩ := info_parts int_info
          clear hfin hkl hway hev hfm hhe hh HWay
          go_wp2_with (first | (refine wpList_make_full _ rfl _ _ 32 rfl wz.heap.size 3 i0 (.int .i64 0) 1 Try.underlying32 hi hz0 hz1 .i64 .i64 (n : Int) (n : Int) n rfl rfl rfl rfl ?q1 ?q2 (Nat.le_refl _) ?_))
          case q1 => rw [hz2]; omega
          case q2 => unfold maxLen; omega
          intro w1 ho1 hg1
          have hown : OwnI R wz.heap.size 3 w1 (.slice (some ⟨wz.heap.size, 0, none⟩) n n) (List.replicate n 0) := OwnI.made HEr.out.inv ho1
          have he1 : Ev R wz R w1 := (Ev.refl HEr.out.inv).grown hg1 (by simp)
          have HM1 := Lib.hid (HMr.out.ev he1)
          have HE1 := Lib.hid (HEr.out.trans he1)
          have HO1 := Lib.hid hown
          have hzs : bm < wz.heap.size := HMr.out.lt
          have hz1s : wz.heap.size < w1.heap.size := (hown.lt wz.heap.size rfl).2
          obtain ⟨gB, hgB⟩ : ∃ x, wz.heap.size = x := ⟨_, rfl⟩
          rw [hgB] at HO1 hzs hz1s
          rw [hgB]
          have hBa : wa.heap.size ≤ gB := by have := HEr.out.size; omega
          have hRB : R gB = none := by rw [← hgB]; exact HEr.out.inv.none_of_ge (Nat.le_refl _)
          clear hown he1 ho1 hg1 HMr HEr y0 hgB
          go_wp2_with (at_range; refine wpList_frange rfl _ rfl HM1.out (HE1.out.inv.none_of_ge (Nat.le_refl _)) rfl ?_; intro w2 hfr2 hg2)
          try go_frame
          have HO2 := Lib.hid (HO1.out.kept hg2 (Or.inr (by simp [Value.ownBlock])))
          have HE2 := Lib.hid (HE1.out.grown hg2 (by simp))
          obtain ⟨br, hbr⟩ : ∃ x, w1.heap.size = x := ⟨_, rfl⟩
          rw [hbr] at hfr2 hz1s
          rw [hbr]
          have HF2 := Lib.hid hfr2
          have hRr : R br = none := by rw [← hbr]; exact HE1.out.inv.none_of_ge (Nat.le_refl _)
          have hbra : wa.heap.size ≤ br := by have := HE1.out.size; omega
          have hb0 : List.replicate n 0 = toI (cbL P n (fun j => (lkI P j).isSome)) := by
            refine List.ext_getElem (by simp [toI, cbL]) fun j h1 h2 => ?_
            have hj : j < n := by simpa using h1
            simp only [toI, cbL, List.getElem_replicate, List.getElem_map, List.getElem_range]
            rw [cb_all (fun p hp => by rw [lkI_nat, (lk_iff HInv.out.nd).2 (show (p.1, p.2) ∈ P from hp)]; rfl)]
            rfl
          have HB0 := Lib.hid hb0
          clear hfr2 hg2 hbr hb0 HM1 HE1 HO1
          go_loopg [15] P.length (fun g v15 wr => ∃ (lf : Int → Bool) (cnt : Nat), cnt ≤ g ∧ FRange R wr bm br P.length (lkI P) lf cnt P.length ∧ OwnI R gB 3 wr (.slice (some ⟨gB, 0, none⟩) n n) (toI (cbL P n lf)) ∧ Ev R wa R wr)
          case atStart => exact ⟨_, P.length, Nat.le_refl _, HF2.out, by rw [← HB0.out]; exact HO2.out, HE2.out⟩
          case round =>
            clear HF2 HO2 HE2 HB0
            obtain ⟨lf, cnt, hcg, hfr, hob, hev⟩ := hrel
            have HFr := Lib.hid hfr
            have HOb := Lib.hid hob
            have HEv := Lib.hid hev
            have hcl := cbL_length P n lf
            have HCl := Lib.hid hcl
            clear hfr hob hev hcl
            go_wp2_with (at_next; refine wpList_fnext rfl _ rfl HFr.out rfl ?_ ?_)
            · intro hdone
              have hcb : ∀ y, y < n → at' (cbL P n lf) y = cntV P y := fun y hy => by
                rw [cbL_at hy, cb_none (fun x => hdone _)]
              have HCb := Lib.hid hcb
              have hlen := fun ty => HFr.out.fmap.len ty
              obtain ⟨x0, _, _, _⟩ := boxC_cells (HX.out _ HEv.out).1
              obtain ⟨wd, hwd⟩ : ∃ x, x = wr := ⟨_, rfl⟩
              subst hwd
              clear hcb hdone
              go_wp2_with fail
              go_loopg [116] n (fun g v116 wr => ∃ i : Nat, i ≤ n ∧ n - i ≤ g ∧ v116 = .int .i64 (i : Int) ∧ (∀ y, y < i → cntV P y = 1) ∧ wr = wd)
              case atStart => exact ⟨0, Nat.zero_le _, by omega, rfl, fun y hy => by omega, rfl⟩
              case round =>
                obtain ⟨i, hin, hig, rfl, hall, rfl⟩ := hrel
                by_cases hil : i < n
                · obtain ⟨g', e', _, _, k0, _⟩ := HOb.out.headAt (by rw [toI_length]; exact HCl.out) hil
                  cases e'
                  rw [toI_nth, HCb.out i hil] at k0
                  have hi' : (i : Int) < (n : Int) := by omega
                  by_cases hc1 : cntV P i = 1
                  · have hcb : ((cntV P i : Int) != 1) = false := by simp; omega
                    have HAll := Lib.hid hall
                    have HC1 := Lib.hid hc1
                    rw [hc1] at k0
                    clear hall hc1 hcb
                    go_wp2_with fail
                    go_roundg (n - (i + 1))
                    case measure => omega
                    case rel => exact ⟨i + 1, by omega, by omega, by go_num, fun y hy => by
                      by_cases e : y = i
                      · rw [e]; exact HC1.out
                      · exact HAll.out y (by omega), rfl⟩
                  · have hcb : ((cntV P i : Int) != 1) = true := by simp; omega
                    have HNo := Lib.hid (show ¬ canM S (a : Int) = canM T (b : Int) from fun h => hc1 ((HFin.out.2 (HRes.out.1 h)).1 i hil))
                    clear hall hc1
                    go_wp2_with fail
                    go_ret
                    exact ⟨by rw [decide_eq_false HNo.out]; rfl, HEa.out.trans HEv.out⟩
                · obtain rfl : i = n := by omega
                  have hdec : decide (canM S (a : Int) = canM T (b : Int)) = ((P.length : Int) == (i : Int)) := by
                    rw [Bool.eq_iff_iff, decide_eq_true_eq]
                    constructor
                    · intro h
                      have := (HFin.out.2 (HRes.out.1 h)).2
                      simp; omega
                    · intro h
                      exact HRes.out.2 (HFin.out.1 ⟨hall, by simp at h; omega⟩)
                  have HDec := Lib.hid hdec
                  obtain ⟨pl, hpl⟩ : ∃ x, P.length = x := ⟨_, rfl⟩
                  rw [hpl] at HDec hlen
                  clear hdec hall
                  go_wp2_with fail
                  go_ret
                  exact ⟨by rw [HDec.out]; rfl, HEa.out.trans HEv.out⟩
            · intro x y w3 cnt' hlx hfx hfr3 hlt3 hg3 hen3
              obtain ⟨xn, yn, rfl, rfl, hmem⟩ : ∃ xn yn : Nat, x = (xn : Int) ∧ y = (yn : Int) ∧ (xn, yn) ∈ P := by
                have hx0 : 0 ≤ x := by
                  refine Classical.byContradiction fun hx => ?_
                  unfold lkI at hfx
                  rw [if_neg hx] at hfx
                  cases hfx
                obtain ⟨xn, rfl⟩ : ∃ k : Nat, x = (k : Int) := ⟨x.toNat, by omega⟩
                rw [lkI_nat] at hfx
                cases hl : lk P xn with
                | none => rw [hl] at hfx; cases hfx
                | some z => rw [hl] at hfx; injection hfx with hfx; exact ⟨xn, z, rfl, hfx.symm, (lk_iff HInv.out.nd).1 hl⟩
              have hyn : yn < n := by have := (HInv.out.lt _ hmem).2; rw [HN.out] at this; exact this
              have ho3 := HOb.out.kept hg3 (Or.inr (show (some gB : Option Nat) ≠ some br from fun e => by injection e with e; omega))
              obtain ⟨g', e', _, _, k0, f0⟩ := ho3.headAt (by rw [toI_length]; exact HCl.out) hyn
              cases e'
              rw [toI_nth] at k0
              have hcs := cbL_step HInv.out.nd (n := n) (lf := lf) hyn hmem hlx
              obtain ⟨cv, hcv⟩ : ∃ c, at' (cbL P n lf) yn = c := ⟨_, rfl⟩
              rw [hcv] at k0 hcs
              have hcvl : cv ≤ 1000 := by
                rw [← hcv, cbL_at hyn]
                unfold cb
                exact Nat.le_trans (List.length_filter_le _ _) (by omega)
              have hput := ho3.put (by rw [toI_length]; exact HCl.out) yn hyn ((cv + 1 : Nat) : Int)
              have hst : (toI (cbL P n lf)).set yn ((cv + 1 : Nat) : Int) = toI (cbL P n (fun j => lf j && !decide (j = (xn : Int)))) := by
                rw [← hcs]; simp [toI, List.map_set]
              rw [hst] at hput
              have HE3 := Lib.hid ((HEv.out.grown hg3 (fun k hk => by injection hk with hk; subst hk; exact ⟨hbra, hRr⟩)).setCell (p := ⟨gB, yn, none⟩) hBa hRB (.int .i64 ((cv + 1 : Nat) : Int)))
              have HF3 := Lib.hid (hfr3.setCell (a := ⟨gB, yn, none⟩) (by show bm ≠ gB; omega) (by show br ≠ gB; omega) (.int .i64 ((cv + 1 : Nat) : Int)))
              have HO3 := Lib.hid hput
              have hw1 : IntKind.i64.wrap ((cv : Int) + 1) = ((cv + 1 : Nat) : Int) := by rw [show (cv : Int) + 1 = ((cv + 1 : Nat) : Int) by omega]; exact IntWalk.i64_in _ (by omega)
              obtain ⟨cv1, hcv1⟩ : ∃ c, cv + 1 = c := ⟨_, rfl⟩
              rw [hcv1] at HE3 HF3 HO3 hw1
              have hyi : (yn : Int) < (n : Int) := by omega
              clear hput hst ho3 hfr3 hg3 hcs hcv hlx hfx hmem HFr HOb HEv hcv1
              go_wp2_with fail
              go_roundg cnt'
              case measure => omega
              case rel => exact ⟨_, cnt', Nat.le_refl _, HF3.out, HO3.out, HE3.out⟩
  · have hres : decide (canM S ra = canM T rb) = false := decide_eq_false fun h => hlen (by rw [← HclS.out, ← HclT.out, h])
    have hlb : ((S.length : Int) != (T.length : Int)) = true := by simp; omega
    go_wp2_with fail
    go_ret
    exact ⟨by rw [hres]; rfl, HEa.out⟩
end Go.Proofs.Ytlbhmonpfchocaa

namespace Go.Proofs.Ytlbhmonpfchocaa
open Go.RowKit
set_option linter.unusedVariables false

theorem sameB_can {S T : List Nat} {r r2 : Int} (h1 : ¬ S.length = 0) (h2 : ¬ T.length = 0) : sameB (canM S r) (canM T r2) (canR S r) (canR T r2) ((0 : Nat) : Int) ((0 : Nat) : Int) = decide (canM S r = canM T r2) := by
  unfold sameB canR
  rw [if_neg h1, if_neg h2]
  simp

set_option maxRecDepth 100000 in
set_option maxHeartbeats 4000000 in
theorem canonIso_walk (w : World) (n k rt ot : Nat) (sm : Bool) (hn : n ≤ 255) (hk : k ≤ 255) (hr : rt ≤ 255) (ho : ot ≤ 255) (v : Value) (bs : List Nat) (hv : FreeB noReg w v bs) (v2 : Value) (ts : List Nat) (hv2 : FreeB noReg w v2 ts) :
    Calls Try.prog 5 #[.int .u8 (n : Int), .int .u8 (k : Int), v, v2, .int .u8 (rt : Int), .int .u8 (ot : Int), .bool sm] w (RetTrue noReg w) := by
  have HA := Lib.hid (awake11_any noReg w (Inv.noReg w))
  have hnot := not_run
  have HV := Lib.hid hv
  have HV2 := Lib.hid hv2
  have hS := mixL_perm (2 * (n % 6)) bs
  have hSl := mixL_length (2 * (n % 6)) bs
  have hok0 := made_ok (n % 6) rt bs 0 (by omega) (by omega)
  have hT := mixL_perm (2 * (k % 6)) ts
  have hTl := mixL_length (2 * (k % 6)) ts
  have hok2 := made_ok (k % 6) ot ts 0 (by omega) (by omega)
  have HM := Lib.hid (fun R w' (hI : Inv R w') (hv : FreeB R w' v bs) => (by
    have h := rany_any R w' hI (n % 6) (by omega) v bs hv rt hr
    rw [show ((n % 6 : Nat) : Int) = (n : Int) % 6 from by omega] at h
    exact h : Calls Try.prog 25 #[.int .i64 ((n : Int) % 6), v, .int .u8 (rt : Int)] w' (RetMap R w' (mixL (2 * (n % 6)) bs) (anyRoot (n % 6) rt) 0)))
  have HM2 := Lib.hid (fun R w' (hI : Inv R w') (hv : FreeB R w' v2 ts) => (by
    have h := rany_any R w' hI (k % 6) (by omega) v2 ts hv ot ho
    rw [show ((k % 6 : Nat) : Int) = (k : Int) % 6 from by omega] at h
    exact h : Calls Try.prog 25 #[.int .i64 ((k : Int) % 6), v2, .int .u8 (ot : Int)] w' (RetMap R w' (mixL (2 * (k % 6)) ts) (anyRoot (k % 6) ot) 0)))
  obtain ⟨S, hSe⟩ : ∃ S, mixL (2 * (n % 6)) bs = S := ⟨_, rfl⟩
  obtain ⟨r, hre⟩ : ∃ r, anyRoot (n % 6) rt = r := ⟨_, rfl⟩
  obtain ⟨T0, hTe⟩ : ∃ S, mixL (2 * (k % 6)) ts = S := ⟨_, rfl⟩
  obtain ⟨r2, hr2e⟩ : ∃ r, anyRoot (k % 6) ot = r := ⟨_, rfl⟩
  simp only [show ((0 : Nat) : Int) = 0 from rfl] at hok0 hok2
  rw [hSe, hre] at HM hok0
  rw [hTe, hr2e] at HM2 hok2
  rw [hSe] at hS hSl
  rw [hTe] at hT hTl
  have hm22 : S.length ≤ 22 := by omega
  have hm23 : T0.length ≤ 22 := by omega
  obtain ⟨a0, c0, rfl, _⟩ := hv
  obtain ⟨a02, c02, rfl, _⟩ := hv2
  clear hSe hre hTe hr2e hSl hTl
  have HS := Lib.hid hS
  have HOk := Lib.hid hok0
  have HT := Lib.hid hT
  have HOk2 := Lib.hid hok2
  clear hS hok0 hT hok2
  go_enter Try.func5, Try.ntmps5
  go_wp2_with fail
  refine HA.out.mono ?_
  rintro e w1 ⟨rfl, R1, he1⟩
  have HE1 := Lib.hid he1
  clear he1
  go_wp2_with fail
  refine (HM.out R1 w1 HE1.out.inv (HV.out.ev HE1.out)).mono ?_
  rintro e w2 ⟨a1, c1, rfl, he2, ho2⟩
  unfold refV
  have HE2 := Lib.hid (HE1.out.trans he2)
  have HO2 := Lib.hid ho2.free
  clear he2 ho2 HE1
  go_wp2_with fail
  refine (HM2.out R1 w2 HE2.out.inv (HV2.out.ev HE2.out)).mono ?_
  rintro e w3 ⟨a2, c2, rfl, he3, ho3⟩
  unfold refV
  have HE3 := Lib.hid (HE2.out.trans he3)
  have HI3 := Lib.hid he3.inv
  have HOx := Lib.hid (HO2.out.ev he3)
  have HOy := Lib.hid ho3.free
  clear he3 ho3 HE2 HO2
  have he5 : Ev R1 w3 R1 ((w3.alloc (.cells #[.slice a1 S.length c1, .int .i64 r, .int .i64 0] 34)).alloc (.cells #[.slice a2 T0.length c2, .int .i64 r2, .int .i64 0] 34)) := ((Ev.refl HI3.out).alloc _).alloc _
  have hxn : R1 w3.heap.size = none := HI3.out.none_of_ge (Nat.le_refl _)
  have hyn : R1 (w3.heap.size + 1) = none := HI3.out.none_of_ge (by omega)
  have hxb : ((w3.alloc (.cells #[.slice a1 S.length c1, .int .i64 r, .int .i64 0] 34)).alloc (.cells #[.slice a2 T0.length c2, .int .i64 r2, .int .i64 0] 34)).heap[w3.heap.size]? = some (.cells #[.slice a1 S.length c1, .int .i64 r, .int .i64 0] 34) := by rw [heap_alloc_old _ _ (by simp)]; exact heap_alloc_new _ _
  have hyb : ((w3.alloc (.cells #[.slice a1 S.length c1, .int .i64 r, .int .i64 0] 34)).alloc (.cells #[.slice a2 T0.length c2, .int .i64 r2, .int .i64 0] 34)).heap[w3.heap.size + 1]? = some (.cells #[.slice a2 T0.length c2, .int .i64 r2, .int .i64 0] 34) := by have := heap_alloc_new (w3.alloc (.cells #[.slice a1 S.length c1, .int .i64 r, .int .i64 0] 34)) (.cells #[.slice a2 T0.length c2, .int .i64 r2, .int .i64 0] 34); simpa using this
  go_upto_region 4 with fail
  obtain ⟨w5, hw5⟩ : ∃ x, (w3.alloc (.cells #[.slice a1 S.length c1, .int .i64 r, .int .i64 0] 34)).alloc (.cells #[.slice a2 T0.length c2, .int .i64 r2, .int .i64 0] 34) = x := ⟨_, rfl⟩
  obtain ⟨bx, hbx⟩ : ∃ x, w3.heap.size = x := ⟨_, rfl⟩
  obtain ⟨bY, hbY⟩ : ∃ x, w3.heap.size + 1 = x := ⟨_, rfl⟩
  rw [hw5] at he5 hxb hyb
  try rw [hw5]
  rw [hbY] at hyn hyb
  try rw [hbY]
  rw [hbx] at hxn hxb hbY
  try rw [hbx]
  have hxy : bx ≠ bY := by omega
  have hb3 : w3.heap.size ≤ bx := by omega
  have hb3y : w3.heap.size ≤ bY := by omega
  have HE5 := Lib.hid he5
  have HXn := Lib.hid hxn
  have HYn := Lib.hid hyn
  have HXb := Lib.hid hxb
  have HYb := Lib.hid hyb
  clear he5 hxn hyn hxb hyb hw5 hbx hbY
  go_upto_if 33 with fail
  go_cut [] (fun wx => Ev R1 w3 R1 wx ∧ wx.heap[bx]? = some (.cells #[.slice a1 S.length c1, .int .i64 r, .int .i64 0] 34) ∧ ∃ (ay : Option Addr) (T : List Nat) (cy : Nat) (yr : Int), wx.heap[bY]? = some (.cells #[.slice ay T.length cy, .int .i64 yr, .int .i64 0] 34 (0, 0)) ∧ FreeI R1 w3 (.slice ay T.length cy) (toI T) ∧ IsPerm T ∧ MapOk T yr 0 ∧ T.length ≤ 22)
  case first =>
    cases sm with
    | false =>
      go_wp2_with fail
      go_meet
      exact ⟨HE5.out, HXb.out, a2, T0, c2, r2, HYb.out, HOy.out, HT.out, HOk2.out, hm23⟩
    | true =>
      obtain ⟨x0, x1, x2, _⟩ := boxC_cells HXb.out
      obtain ⟨y0, y1, y2, hyf⟩ := boxC_cells HYb.out
      have hf0 := hyf 0
      have hf1 := hyf 1
      have hf2 := hyf 2
      clear hyf
      have e3 : ∀ A B C, (((w5.setCell ⟨bY, 0, none⟩ A).setCell ⟨bY, 1, none⟩ B).setCell ⟨bY, 2, none⟩ C).heap[bY]? = some (.cells #[A, B, C] 34 (0, 0)) := fun A B C => heap_setCell_same _ _ 2 _ _ _ (heap_setCell_same _ _ 1 _ _ _ (heap_setCell_same _ _ 0 _ _ _ HYb.out))
      have x3 : ∀ A B C, (((w5.setCell ⟨bY, 0, none⟩ A).setCell ⟨bY, 1, none⟩ B).setCell ⟨bY, 2, none⟩ C).heap[bx]? = some (.cells #[.slice a1 S.length c1, .int .i64 r, .int .i64 0] 34) := fun A B C => by
        rw [Below.heap_setCell _ _ _ _ hxy, Below.heap_setCell _ _ _ _ hxy, Below.heap_setCell _ _ _ _ hxy]; exact HXb.out
      have v3 : ∀ A B C, Ev R1 w3 R1 (((w5.setCell ⟨bY, 0, none⟩ A).setCell ⟨bY, 1, none⟩ B).setCell ⟨bY, 2, none⟩ C) := fun A B C =>
        ((HE5.out.setCell (p := ⟨bY, 0, none⟩) hb3y HYn.out A).setCell (p := ⟨bY, 1, none⟩) hb3y HYn.out B).setCell (p := ⟨bY, 2, none⟩) hb3y HYn.out C
      have H3 := Lib.hid e3
      have HX3 := Lib.hid x3
      have HV3 := Lib.hid v3
      clear e3 x3 v3
      by_cases h0 : S.length = 0
      · obtain rfl := List.eq_nil_of_length_eq_zero h0
        clear h0
        go_wp2_with fail
        go_meet
        exact ⟨HV3.out _ _ _, HX3.out _ _ _, a1, [], c1, r, H3.out _ _ _, HOx.out, HS.out, HOk.out, by simp⟩
      · have hl0 : (0 : Int) < (S.length : Int) := by omega
        have hlz : (S.length : Int) ≠ 0 := by omega
        obtain ⟨rm, hrm⟩ : ∃ x, ot % S.length = x := ⟨_, rfl⟩
        have hmod : (ot : Int) % (S.length : Int) = (rm : Int) := by rw [← hrm]; simp
        have hrl : rm < S.length := by rw [← hrm]; exact Nat.mod_lt _ (by omega)
        clear hrm
        go_wp2_with fail
        go_meet
        exact ⟨(HV3.out _ _ _).setCell (p := ⟨bY, 1, none⟩) hb3y HYn.out _, by rw [Below.heap_setCell _ _ _ _ hxy]; exact HX3.out _ _ _, a1, S, c1, (rm : Int), heap_setCell_same _ _ 1 _ _ _ (H3.out _ _ _), HOx.out, HS.out, by have := HOk.out; unfold MapOk at this ⊢; omega, hm22⟩
  case rest =>
    obtain ⟨hev, hbx, ay, T, cy, yr, hby, hfy, hTp, hTok, hTl⟩ := hcut
    have HW := Lib.hid hev
    have HX := Lib.hid (fun R' w' (h : Ev R1 wc R' w') => boxC_cells ((h.block bx (lt_of_block hbx) HXn.out).trans hbx))
    have HY := Lib.hid (fun R' w' (h : Ev R1 wc R' w') => boxC_cells ((h.block bY (lt_of_block hby) HYn.out).trans hby))
    have HFx := Lib.hid (HOx.out.ev hev)
    have HFy := Lib.hid (hfy.ev hev)
    have HTp := Lib.hid hTp
    have HTok := Lib.hid hTok
    have HEw := Lib.hid (HE3.out.trans hev)
    clear hev hbx hby hfy hTp hTok HE5 HXb HYb HOx HOy HT HOk2 HM HM2 hm23 HA
    have HOf := Lib.hid (fun R' w' (h : Ev R1 wc R' w') => of11_any R' w' h.inv _ S r 0 (HFx.out.ev h) HS.out HOk.out)
    have HOg := Lib.hid (fun R' w' (h : Ev R1 wc R' w') => of11_any R' w' h.inv _ T yr 0 (HFy.out.ev h) HTp.out HTok.out)
    have HPt := Lib.hid (fun R' w' (h : Ev R1 wc R' w') => r8parts_any R' w' h.inv _ S r 0 (HFx.out.ev h) HS.out (by omega) HOk.out.1 (by omega))
    have HPu := Lib.hid (fun R' w' (h : Ev R1 wc R' w') => r8parts_any R' w' h.inv _ T yr 0 (HFy.out.ev h) HTp.out (by omega) HTok.out.1 (by omega))
    unfold refV at HOf HOg HPt HPu
    obtain ⟨PN, hPN⟩ : ∃ x, partsN S = x := ⟨_, rfl⟩
    obtain ⟨QN, hQN⟩ : ∃ x, partsN T = x := ⟨_, rfl⟩
    simp only [Nat.add_zero, hPN] at HPt
    simp only [Nat.add_zero, hQN] at HPu
    have HPN := Lib.hid hPN
    have HQN := Lib.hid hQN
    have hpn := partsN_le HS.out HOk.out.1
    have hqn := partsN_le HTp.out HTok.out.1
    rw [hPN] at hpn
    rw [hQN] at hqn
    clear hPN hQN
    have HEd := Lib.hid ((Ev.refl HW.out.inv).drew)
    obtain ⟨x0, x1, x2, _⟩ := HX.out _ _ HEd.out
    obtain ⟨y0, y1, y2, _⟩ := HY.out _ _ HEd.out
    go_wp2_with fail
    go_region_held3 (fun w' => w'.cell? ⟨bx, 0, none⟩ = some (.slice a1 S.length c1) ∧ w'.cell? ⟨bx, 1, none⟩ = some (.int .i64 r) ∧ w'.cell? ⟨bx, 2, none⟩ = some (.int .i64 0) ∧ w'.cell? ⟨bY, 0, none⟩ = some (.slice ay T.length cy) ∧ w'.cell? ⟨bY, 1, none⟩ = some (.int .i64 yr) ∧ w'.cell? ⟨bY, 2, none⟩ = some (.int .i64 0)) (exact ⟨x0, x1, x2, y0, y1, y2⟩) (first | (go_at_call 26; first | ((with_reducible refine (HOf.out _ _ HEd.out).mono ?_); rintro z wb ⟨p, Re, rfl, hee, hp⟩; (try (have HQ := Lib.hid (hee.map HQ.out))); have HP := Lib.hid hp; have HEd := Lib.hid (HEd.out.trans hee); clear hee hp; obtain ⟨x0, x1, x2, _⟩ := HX.out _ _ HEd.out; obtain ⟨y0, y1, y2, _⟩ := HY.out _ _ HEd.out) | ((with_reducible refine (HOg.out _ _ HEd.out).mono ?_); rintro z wc2 ⟨q, Rf, rfl, hee, hq⟩; (try (have HP := Lib.hid (hee.map HP.out))); have HQ := Lib.hid hq; have HEd := Lib.hid (HEd.out.trans hee); clear hee hq; obtain ⟨x0, x1, x2, _⟩ := HX.out _ _ HEd.out; obtain ⟨y0, y1, y2, _⟩ := HY.out _ _ HEd.out)))
    have hc := connected_any _ _ HEd.out.inv p S r 0 HP.out
    rw [HPN.out, Nat.add_zero] at hc
    have HC := Lib.hid hc
    clear hc x0 x1 x2 y0 y1 y2
    go_wp2_with fail
    refine HC.out.mono ?_
    rintro e w6 ⟨rfl, R6, he⟩
    have HP := Lib.hid (he.map HP.out)
    have HQ := Lib.hid (he.map HQ.out)
    have HEd := Lib.hid (HEd.out.trans he)
    clear he HC
    by_cases hP1 : PN = 1
    · rw [decide_eq_true hP1]
      have hc := connected_any _ _ HEd.out.inv q T yr 0 HQ.out
      rw [HQN.out, Nat.add_zero] at hc
      have HC := Lib.hid hc
      clear hc
      have hpb : ((PN : Int) != 1) = false := by simp; omega
      go_wp2_with fail
      refine HC.out.mono ?_
      rintro e w7 ⟨rfl, R7, he⟩
      have HP := Lib.hid (he.map HP.out)
      have HQ := Lib.hid (he.map HQ.out)
      have HEd := Lib.hid (HEd.out.trans he)
      clear he HC
      by_cases hQ1 : QN = 1
      · rw [decide_eq_true hQ1]
        have hSz : ¬ S.length = 0 := by omega
        have hTz : ¬ T.length = 0 := by omega
        obtain ⟨B, hB⟩ : ∃ B, decide (canM S r = canM T yr) = B := ⟨_, rfl⟩
        have hB2 : decide (canM T yr = canM S r) = B := by rw [← hB]; exact decide_eq_decide.2 ⟨fun h => h.symm, fun h => h.symm⟩
        have K1 := Lib.hid (fun R' w' (hI : Inv R' w') (hp : MapAt R' p S r 0) (hq : MapAt R' q T yr 0) => (by
          have h := iso_any R' w' hI p q S T r yr 0 0 hp hq
          rw [sameB_can hSz hTz, hB] at h
          exact h : Calls Try.prog 29 #[p, q] w' (RetV R' w' (.bool B))))
        have K2 := Lib.hid (fun R' w' (hI : Inv R' w') (hp : MapAt R' p S r 0) (hq : MapAt R' q T yr 0) => (by
          have h := iso_any R' w' hI q p T S yr r 0 0 hq hp
          rw [sameB_can hTz hSz, hB2] at h
          exact h : Calls Try.prog 29 #[q, p] w' (RetV R' w' (.bool B))))
        have hTu := fun R' w' (h : Ev R1 wc R' w') => r11turn_any R' w' h.inv _ _ S T r yr (HFx.out.ev h) (HFy.out.ev h) HS.out HTp.out HOk.out HTok.out (by omega) (by omega) (by rw [HPN.out]; omega)
        rw [hB] at hTu
        unfold refV at hTu
        have K3 := Lib.hid hTu
        have hbb : (B == B) = true := by simp
        have HEf := Lib.hid HEd.out
        have HEd := Lib.hid HEf.out.drew
        have HI0 := Lib.hid HEf.out.inv
        clear hB hB2 hTu HOf HOg HPt HPu hP1 hQ1
        obtain ⟨x0, x1, x2, _⟩ := HX.out _ _ HEd.out
        obtain ⟨y0, y1, y2, _⟩ := HY.out _ _ HEd.out
        go_wp2_with fail
        go_region_held3 (fun w' => w'.cell? ⟨bx, 0, none⟩ = some (.slice a1 S.length c1) ∧ w'.cell? ⟨bx, 1, none⟩ = some (.int .i64 r) ∧ w'.cell? ⟨bx, 2, none⟩ = some (.int .i64 0) ∧ w'.cell? ⟨bY, 0, none⟩ = some (.slice ay T.length cy) ∧ w'.cell? ⟨bY, 1, none⟩ = some (.int .i64 yr) ∧ w'.cell? ⟨bY, 2, none⟩ = some (.int .i64 0)) (exact ⟨x0, x1, x2, y0, y1, y2⟩) (first | (go_at_call 29; first | ((with_reducible refine (K1.out _ _ HEd.out.inv HP.out HQ.out).mono ?_); rintro z wa ⟨rfl, Ra, hea⟩; have HP := Lib.hid (hea.map HP.out); have HQ := Lib.hid (hea.map HQ.out); have HEd := Lib.hid (HEd.out.trans hea); clear hea; obtain ⟨x0, x1, x2, _⟩ := HX.out _ _ HEd.out; obtain ⟨y0, y1, y2, _⟩ := HY.out _ _ HEd.out) | ((with_reducible refine (K2.out _ _ HEd.out.inv HP.out HQ.out).mono ?_); rintro z wa ⟨rfl, Ra, hea⟩; have HP := Lib.hid (hea.map HP.out); have HQ := Lib.hid (hea.map HQ.out); have HEd := Lib.hid (HEd.out.trans hea); clear hea; obtain ⟨x0, x1, x2, _⟩ := HX.out _ _ HEd.out; obtain ⟨y0, y1, y2, _⟩ := HY.out _ _ HEd.out)) | (go_at_call 30; refine (K3.out _ _ HEd.out).mono ?_; rintro z wa ⟨rfl, hea⟩; have HP := Lib.hid (hea.map HP.out); have HQ := Lib.hid (hea.map HQ.out); have HEd := Lib.hid (HEd.out.trans hea); clear hea; obtain ⟨x0, x1, x2, _⟩ := HX.out _ _ HEd.out; obtain ⟨y0, y1, y2, _⟩ := HY.out _ _ HEd.out))
        all_goals (go_wp2_with fail)
        all_goals go_ret
        all_goals exact ⟨by first | rfl | (simp; done) | (simp [Act.put]; done) | simp [go_sem], _, HEw.out.trans HEd.out⟩
      · rw [decide_eq_false hQ1]
        have hqb : ((QN : Int) != 1) = true := by simp; omega
        obtain ⟨x0, x1, x2, _⟩ := HX.out _ _ HEd.out
        go_wp2_with fail
        refine (HPt.out _ _ HEd.out).mono ?_
        rintro e w8 ⟨v8, rfl, he8, a8, c8, rfl, _⟩
        have HEd := Lib.hid (HEd.out.trans he8)
        clear he8 x0 x1 x2
        obtain ⟨y0, y1, y2, _⟩ := HY.out _ _ HEd.out
        go_wp2_with fail
        refine (HPu.out _ _ HEd.out).mono ?_
        rintro e w9 ⟨v9, rfl, he9, a9, c9, rfl, _⟩
        have HEd := Lib.hid (HEd.out.trans he9)
        clear he9 y0 y1 y2
        go_wp2_with fail
        go_ret
        exact ⟨by first | rfl | simp, _, HEw.out.trans HEd.out⟩
    · rw [decide_eq_false hP1]
      have hpb : ((PN : Int) != 1) = true := by simp; omega
      obtain ⟨x0, x1, x2, _⟩ := HX.out _ _ HEd.out
      go_wp2_with fail
      refine (HPt.out _ _ HEd.out).mono ?_
      rintro e w8 ⟨v8, rfl, he8, a8, c8, rfl, _⟩
      have HEd := Lib.hid (HEd.out.trans he8)
      clear he8 x0 x1 x2
      go_wp2_with fail
      go_ret
      exact ⟨by first | rfl | simp, _, HEw.out.trans HEd.out⟩
end Go.Proofs.Ytlbhmonpfchocaa
