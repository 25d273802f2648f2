/- the references: Mix, Any. Conditions: the bytes lie in memory. The arguments of a law as its walk takes them: bytes as numbers. Conditions: none. -/
import Derived.Test.YtcnmbenfnpjkjaaGreatZShellNo10
import Derived.Test.YtcnmbenfnpjkjaaGreatZShellNo01
import Derived.BigRegion
namespace Go.Proofs.YtcnmbenfnpjkjaaGreat
open Go.RowKit
set_option linter.unusedVariables false

/-- bytes of the caller's -/
def FreeB (R : Reg) (w : World) (v : Value) (bs : List Nat) : Prop :=
  ∃ a cap, v = .slice a bs.length cap ∧ bs.length ≤ maxLen ∧ ∀ i, i < bs.length → ∃ b off, a = some ⟨b, off, none⟩ ∧ R b = none ∧ w.cell? ⟨b, off + i, none⟩ = some (.int .u8 ((at' bs i : Nat) : Int)) ∧ at' bs i ≤ 255

theorem FreeB.ev {R R1 : Reg} {w w1 : World} {v : Value} {bs : List Nat} (h : FreeB R w v bs) (he : Ev R w R1 w1) : FreeB R1 w1 v bs := by
  obtain ⟨a, cap, h1, h2, h3⟩ := h
  refine ⟨a, cap, h1, h2, fun i hi => ?_⟩
  obtain ⟨b, off, e, hb, hc, hl⟩ := h3 i hi
  have hlt := lt_of_cell hc
  exact ⟨b, off, e, he.free b hlt hb, (he.cell hlt hb).trans hc, hl⟩

theorem toI_range_succ (k : Nat) : toI (List.range (k + 1)) = toI (List.range k) ++ [(k : Int)] := by rw [List.range_succ, toI_append]

set_option maxRecDepth 100000 in
set_option maxHeartbeats 2000000 in
theorem rmix_any (R : Reg) (w : World) (hI : Inv R w) (n : Nat) (hn : n ≤ 4194304) (v : Value) (bs : List Nat) (hv : FreeB R w v bs) :
    Calls Tryz.prog 61 #[.int .i64 (n : Int), v] w (RetOwn R w (toI (mixL n bs))) := by
  have HV := Lib.hid hv
  have HI := Lib.hid hI
  obtain ⟨a0, cap0, rfl, hml, _⟩ := hv
  obtain ⟨m, hm⟩ : ∃ m, bs.length = m := ⟨_, rfl⟩
  rw [hm] at HV hml ⊢
  have HM := Lib.hid hm
  unfold maxLen at hml
  clear hI hm
  go_enter Tryz.func61, Tryz.ntmps61
  go_wp2_with fail
  go_loopg [5, 6] n (fun g v5 v6 wr => ∃ k : Nat, k ≤ n ∧ n - k ≤ g ∧ v6 = .int .i64 (k : Int) ∧ Ev R w R wr ∧ OwnI R w.heap.size 3 wr v5 (toI (List.range k)))
  case atStart => exact ⟨0, Nat.zero_le _, by omega, rfl, Ev.refl HI.out, OwnI.nil R _ _ _⟩
  case round =>
    obtain ⟨k, hk, hg, rfl, he, ho⟩ := hrel
    have HE := Lib.hid he
    have HO := Lib.hid ho
    clear he ho
    by_cases hkn : k < n
    · go_wp2_with (at_builtin; refine wpList_app_int (R := R) (B := w.heap.size) rfl _ _ rfl (HO.out.alloc _) rfl ⟨wr.heap.size, 0, none⟩ 1 (k : Int) rfl ?q1 ?q2 ?q3 ?q4 ?_)
      case q1 => simp
      case q2 => rw [toI_length, List.length_range]; omega
      case q3 => simp; have := HE.out.size; omega
      case q4 => intro q hq; exact HE.out.inv.none_of_ge (by simp at hq; omega)
      intro v' w1 ho1 hg1 hs1
      have he1 := (HE.out.alloc (.cells #[.int .i64 (k : Int)] 3)).app (HO.out.alloc _) (Nat.le_refl _) hg1
      have HE1 := Lib.hid he1
      have HO1 := Lib.hid ho1
      clear he1 ho1 hg1 hs1
      go_wp2_with fail
      go_roundg (n - (k + 1))
      case measure => omega
      case rel => exact ⟨k + 1, by omega, by omega, by go_num, HE1.out, by rw [toI_range_succ]; exact HO1.out⟩
    · obtain rfl : k = n := by omega
      obtain ⟨a1, cap1, rfl, _⟩ := HO.out.ints.open
      rw [toI_length, List.length_range] at HO ⊢
      have HO1 := Lib.hid (show OwnI R w.heap.size 3 wr (.slice a1 k cap1) (toI (mixGo k bs 0)) from HO.out)
      go_wp2_with fail
      obtain ⟨wo, hwo⟩ : ∃ wo : World, wo = wr := ⟨_, rfl⟩
      subst hwo
      obtain ⟨n, hnk⟩ : ∃ n, n = k := ⟨_, rfl⟩
      subst hnk
      clear hkn hk hg
      go_loopg [20] n (fun g v20 wr => ∃ k : Nat, k ≤ n ∧ n - k ≤ g ∧ v20 = .int .i64 (k : Int) ∧ Ev R w R wr ∧ OwnI R w.heap.size 3 wr (.slice a1 n cap1) (toI (mixGo n bs k)))
      case atStart => exact ⟨0, Nat.zero_le _, by omega, rfl, HE.out, HO1.out⟩
      case round =>
        obtain ⟨k, hk, hg, rfl, he, ho⟩ := hrel
        have HLE := Lib.hid (show (toI (mixGo n bs k)).length = n by rw [toI_length, mixGo_length])
        have HE := Lib.hid he
        have HO := Lib.hid ho
        have HN := Lib.hid (mixGo_succ n bs k)
        clear he ho
        by_cases hkn : k < n
        · by_cases hkm : k < m
          · obtain ⟨b, off, e1, hbn, hcb, hb255⟩ : ∃ b off, a0 = some ⟨b, off, none⟩ ∧ R b = none ∧ wr.cell? ⟨b, off + k, none⟩ = some (.int .u8 ((at' bs k : Nat) : Int)) ∧ at' bs k ≤ 255 := by
              obtain ⟨a', c', e, _, h⟩ := HV.out.ev HE.out
              cases e
              exact h k (by rw [HM.out]; exact hkm)
            subst e1
            obtain ⟨y, hy⟩ : ∃ y, at' bs k = y := ⟨_, rfl⟩
            rw [hy] at hcb hb255
            have hmod := Nat.mod_lt y (show n - k > 0 by omega)
            obtain ⟨q, hq⟩ : ∃ q, k + y % (n - k) = q := ⟨_, rfl⟩
            have hqn : q < n := by omega
            have hstep : mixGo n bs (k + 1) = swapL (mixGo n bs k) k q := by
              rw [HN.out]; unfold mixStep; rw [if_pos (by rw [HM.out]; exact hkm), hy, hq]
            have hkq : wrap64 ((k : Int) + (y : Int) % ((n : Int) - (k : Int))) = (q : Int) := by
              have e : (k : Int) + (y : Int) % ((n : Int) - (k : Int)) = (q : Int) := by rw [← hq, show (n : Int) - (k : Int) = ((n - k : Nat) : Int) from by omega]; rfl
              rw [e]
              exact IntWalk.wrap64_in _ ⟨by omega, by omega⟩
            have HST := Lib.hid hstep
            obtain ⟨L, hL⟩ : ∃ L, mixGo n bs k = L := ⟨_, rfl⟩
            rw [hL] at HO HLE HST
            obtain ⟨g, e2, hgb, hgn, hck, hzk⟩ := HO.out.headAt HLE.out hkn
            obtain ⟨g', e3, _, _, hcq, hzq⟩ := HO.out.headAt HLE.out hqn
            subst e2
            cases e3
            rw [toI_nth] at hck hcq
            obtain ⟨x1, hx1⟩ : ∃ x, at' L k = x := ⟨_, rfl⟩
            obtain ⟨x2, hx2⟩ : ∃ x, at' L q = x := ⟨_, rfl⟩
            rw [hx1] at hck
            rw [hx2] at hcq
            have hs1 := HO.out.put HLE.out k hkn (x2 : Int)
            have hs2 := hs1.put (by rw [List.length_set]; exact HLE.out) q hqn (x1 : Int)
            have hfin : ((toI L).set k (x2 : Int)).set q (x1 : Int) = toI (mixGo n bs (k + 1)) := by
              rw [HST.out, swapL, hx1, hx2, toI_set, toI_set]
            rw [hfin] at hs2
            have HS2 := Lib.hid hs2
            have HX := Lib.hid (And.intro hx1 hx2)
            have HQ := Lib.hid hq
            have hqk : k ≤ q := by omega
            clear hs1 hs2 hfin hL hy hx1 hx2 hstep hq HO1
            go_wp2_with fail
            obtain ⟨z1, hz1⟩ := cell?_setCell_some (w := wr.drew) (p := ⟨g, k, none⟩) (x := .int .i64 (x2 : Int)) (q := ⟨g, q, none⟩) (v := .int .i64 (x2 : Int)) (by go_simp)
            obtain ⟨z2, hz2⟩ := cell?_setCell_some (w := wr.drew) (p := ⟨g, q, none⟩) (x := .int .i64 (x1 : Int)) (q := ⟨g, k, none⟩) (v := .int .i64 (x1 : Int)) (by go_simp)
            have hz1' : (wr.setCell ⟨g, k, none⟩ (.int .i64 (x2 : Int))).cell? ⟨g, q, none⟩ = some z1 := hz1
            have hz2' : (wr.setCell ⟨g, q, none⟩ (.int .i64 (x1 : Int))).cell? ⟨g, k, none⟩ = some z2 := hz2
            go_region
            all_goals go_wp2_with fail
            clear hz1 hz2 hz1' hz2' hkq hck hcq hzk hzq hcb
            go_roundg (n - (k + 1))
            case measure => omega
            case rel => exact ⟨k + 1, by omega, by omega, by go_num, ((HE.out.setCell hgb hgn _).setCell hgb hgn _).drew, HS2.out.drew⟩
          · have e1 : mixGo n bs (k + 1) = mixGo n bs k := by rw [HN.out]; unfold mixStep; rw [if_neg (by rw [HM.out]; exact hkm)]
            have H1 := Lib.hid e1
            clear e1
            go_wp2_with fail
            go_roundg (n - (k + 1))
            case measure => omega
            case rel => exact ⟨k + 1, by omega, by omega, by go_num, HE.out, by rw [H1.out]; exact HO.out⟩
        · obtain rfl : k = n := by omega
          go_wp2_with fail
          go_ret
          exact ⟨_, rfl, HE.out, HO.out⟩

theorem set3 {w1 : World} {b T : Nat} {c0 c1 c2 x y z : Value} (h : w1.heap[b]? = some (.cells #[c0, c1, c2] T (0, 0))) :
    (((w1.setCell ⟨b, 0, none⟩ x).setCell ⟨b, 1, none⟩ y).setCell ⟨b, 2, none⟩ z).heap[b]? = some (.cells #[x, y, z] T (0, 0)) := by
  have e1 := heap_setCell_same w1 b 0 _ T x h
  have e2 := heap_setCell_same _ b 1 _ T y e1
  exact heap_setCell_same _ b 2 _ T z e2

/-- the map that Any tells -/
def RetMap (R : Reg) (w : World) (s : List Nat) (root lone : Int) (e : Ending) (w' : World) : Prop :=
  ∃ a c, e = .returned (refV (.slice a s.length c) root lone) ∧ Ev R w R w' ∧ OwnI R w.heap.size 3 w' (.slice a s.length c) (toI s)

set_option maxRecDepth 100000 in
set_option maxHeartbeats 2000000 in
theorem rany_any (R : Reg) (w : World) (hI : Inv R w) (n : Nat) (hn : n ≤ 1000) (v : Value) (bs : List Nat) (hv : FreeB R w v bs) (rt : Nat) (hr : rt ≤ 255) :
    Calls Tryz.prog 20 #[.int .i64 (n : Int), v, .int .u8 (rt : Int)] w (RetMap R w (mixL (2 * n) bs) (anyRoot n rt) 0) := by
  have he0 : Ev R w R (w.alloc (.cells #[.slice none 0 0, .int .i64 0, .int .i64 0] 26)) := (Ev.refl hI).alloc _
  have hm := rmix_any R _ he0.inv (2 * n) (by omega) v bs (hv.ev he0)
  rw [show ((2 * n : Nat) : Int) = 2 * (n : Int) from by omega] at hm
  have HM := Lib.hid hm
  have HE0 := Lib.hid he0
  have HI := Lib.hid hI
  have HLN := Lib.hid (mixL_length (2 * n) bs)
  obtain ⟨S, hS⟩ : ∃ S, mixL (2 * n) bs = S := ⟨_, rfl⟩
  rw [hS] at HM HLN ⊢
  obtain ⟨a0, c0, rfl, _⟩ := hv
  clear hm he0 hI hS
  go_enter Tryz.func20, Tryz.ntmps20
  go_wp2_with fail
  refine HM.out.mono ?_
  rintro e w1 ⟨v1, rfl, he1, ho1⟩
  obtain ⟨a1, c1, rfl, _⟩ := ho1.ints.open
  rw [toI_length] at ho1 ⊢
  have hc0 : w1.heap[w.heap.size]? = some (.cells #[.slice none 0 0, .int .i64 0, .int .i64 0] 26 (0, 0)) := by
    rw [he1.block _ (by simp) (HI.out.none_of_ge (Nat.le_refl _))]
    exact heap_alloc_new w _
  have hz := he1.size
  simp only [World.size_alloc] at hz
  have k0 : w1.cell? ⟨w.heap.size, 0, none⟩ = some (.slice none 0 0) := by simp [World.cell?, hc0]
  have k1 : w1.cell? ⟨w.heap.size, 1, none⟩ = some (.int .i64 0) := by simp [World.cell?, hc0]
  have k2 : w1.cell? ⟨w.heap.size, 2, none⟩ = some (.int .i64 0) := by simp [World.cell?, hc0]
  have z0 : ∀ o, w1.frozen? ⟨w.heap.size, o, none⟩ = false := fun o => by simp [World.frozen?, hc0]
  have hob : ∀ q, (Value.slice a1 S.length c1).ownBlock = some q → q < w1.heap.size := fun q hq => (ho1.lt q hq).2
  have hoq : ∀ q, (Value.slice a1 S.length c1).ownBlock = some q → w.heap.size < q := fun q hq => by
    have := (ho1.lt q hq).1
    simp at this
    omega
  have hlt1 : w.heap.size < w1.heap.size := by omega
  have HE1 := Lib.hid (HE0.out.trans he1)
  have HO1 := Lib.hid (ho1.mono (B' := w.heap.size) (by simp))
  have HOB := Lib.hid hob
  have HOQ := Lib.hid hoq
  have HC0 := Lib.hid hc0
  clear he1 ho1 hob hoq hc0 hz
  by_cases hn0 : 0 < n
  · have har : ((rt : Int) % (2 * (n : Int))) = anyRoot n rt := by
      unfold anyRoot; rw [if_pos hn0, show 2 * (n : Int) = ((2 * n : Nat) : Int) from by omega]; rfl
    have HR := Lib.hid har
    clear har
    go_wp2_with fail
    rw [← HR.out]
    have hb3 := set3 (x := .slice a1 S.length c1) (y := .int .i64 ((rt : Int) % (2 * (n : Int)))) (z := .int .i64 0) HC0.out
    have hw3 : ∀ o, ((((w1.setCell ⟨w.heap.size, 0, none⟩ (.slice a1 S.length c1)).setCell ⟨w.heap.size, 1, none⟩ (.int .i64 ((rt : Int) % (2 * (n : Int))))).setCell ⟨w.heap.size, 2, none⟩ (.int .i64 0)).alloc (.cells #[.slice a1 S.length c1, .int .i64 ((rt : Int) % (2 * (n : Int))), .int .i64 0] 26)).cell? ⟨w.heap.size, o, none⟩ = (#[.slice a1 S.length c1, .int .i64 ((rt : Int) % (2 * (n : Int))), .int .i64 0] : Array Value)[o]? := fun o => by
      rw [World.cell?_alloc_past _ _ _ (by simpa using hlt1), cells_at hb3]
    have w0 := hw3 0
    have w1' := hw3 1
    have w2' := hw3 2
    simp only [List.getElem?_toArray, List.getElem?_cons_zero, List.getElem?_cons_succ] at w0 w1' w2'
    refine bodyPost_ret (v := refV (.slice a1 S.length c1) ((rt : Int) % (2 * (n : Int))) 0) ?_ rfl ⟨a1, c1, rfl, ?_, ?_⟩
    · simp [results, Tryz.results20, go_sem, w0, w1', w2', refV]
    · have hn := HI.out.none_of_ge (Nat.le_refl w.heap.size)
      exact (((HE1.out.setCell (Nat.le_refl _) hn _).setCell (Nat.le_refl _) hn _).setCell (Nat.le_refl _) hn _).alloc _
    · have hne : ∀ (o : Nat), (Value.slice a1 S.length c1).ownBlock ≠ some (⟨w.heap.size, o, none⟩ : Addr).block := fun o e => by
        have := HOQ.out _ e
        simp at this
      exact (((HO1.out.setCell (hne 0) _).setCell (hne 1) _).setCell (hne 2) _).alloc _
  · obtain rfl : n = 0 := by omega
    go_wp2_with fail
    have hb3 := set3 (x := .slice a1 S.length c1) (y := .int .i64 (-1)) (z := .int .i64 0) HC0.out
    have hw3 : ∀ o, ((((w1.setCell ⟨w.heap.size, 0, none⟩ (.slice a1 S.length c1)).setCell ⟨w.heap.size, 1, none⟩ (.int .i64 (-1))).setCell ⟨w.heap.size, 2, none⟩ (.int .i64 0)).alloc (.cells #[.slice a1 S.length c1, .int .i64 (-1), .int .i64 0] 26)).cell? ⟨w.heap.size, o, none⟩ = (#[.slice a1 S.length c1, .int .i64 (-1), .int .i64 0] : Array Value)[o]? := fun o => by
      rw [World.cell?_alloc_past _ _ _ (by simpa using hlt1), cells_at hb3]
    have w0 := hw3 0
    have w1' := hw3 1
    have w2' := hw3 2
    simp only [List.getElem?_toArray, List.getElem?_cons_zero, List.getElem?_cons_succ] at w0 w1' w2'
    refine bodyPost_ret (v := refV (.slice a1 S.length c1) (-1) 0) ?_ rfl ⟨a1, c1, rfl, ?_, ?_⟩
    · simp [results, Tryz.results20, go_sem, w0, w1', w2', refV]
    · have hn := HI.out.none_of_ge (Nat.le_refl w.heap.size)
      exact (((HE1.out.setCell (Nat.le_refl _) hn _).setCell (Nat.le_refl _) hn _).setCell (Nat.le_refl _) hn _).alloc _
    · have hne : ∀ (o : Nat), (Value.slice a1 S.length c1).ownBlock ≠ some (⟨w.heap.size, o, none⟩ : Addr).block := fun o e => by
        have := HOQ.out _ e
        simp at this
      exact (((HO1.out.setCell (hne 0) _).setCell (hne 1) _).setCell (hne 2) _).alloc _

end Go.Proofs.YtcnmbenfnpjkjaaGreat

namespace Go.Proofs.YtcnmbenfnpjkjaaGreat
open Go.RowKit
set_option linter.unusedVariables false

/-- a slice of integers that came in: nil; or a row of cap cells -/
def IsRow (k : IntKind) (w : World) (a : Option Addr) (len cap : Nat) (zs : List Int) : Prop :=
  (a = none ∧ len = 0 ∧ cap = 0 ∧ zs = []) ∨
  ∃ x, a = some x ∧ len ≤ cap ∧ cap ≤ maxLen ∧ zs.length = cap ∧ (∀ i, i < zs.length → w.cell? (x.add i) = some (.int k (zs.getD i 0))) ∧ ∀ n ∈ zs, (Lit.int k n).wf = true

theorem nat_of_u8 {a : Int} (h : (Lit.int .u8 a).wf = true) : ∃ n : Nat, a = (n : Int) ∧ n ≤ 255 := by
  have hx : 0 ≤ a ∧ a ≤ 255 := by simpa [Lit.wf, IntKind.min, IntKind.max, IntKind.signed, IntKind.bits] using h
  exact ⟨a.toNat, by omega, by omega⟩

theorem FreeB.of_row {w : World} {a : Option Addr} {len cap : Nat} {zs : List Int} (h : IsRow .u8 w a len cap zs) : ∃ bs, FreeB noReg w (.slice a len cap) bs := by
  rcases h with ⟨rfl, rfl, rfl, rfl⟩ | ⟨x, rfl, hl, hm, hz, hc, hw⟩
  · exact ⟨[], none, 0, rfl, by simp [maxLen], fun i hi => by simp at hi⟩
  · refine ⟨(zs.take len).map Int.toNat, some x, cap, ?_, ?_, fun i hi => ?_⟩
    · simp only [List.length_map, List.length_take]
      rw [Nat.min_eq_left (by omega)]
    · simp only [List.length_map, List.length_take]; omega
    · simp only [List.length_map, List.length_take] at hi
      have hi' : i < zs.length := by omega
      have hcell := hc i hi'
      obtain ⟨b, off, sp⟩ := x
      have hg : zs.getD i 0 = zs[i] := by simp [List.getD, hi']
      have hwf := hw zs[i] (List.getElem_mem hi')
      obtain ⟨y, hy, hy2⟩ := nat_of_u8 hwf
      have hat : at' ((zs.take len).map Int.toNat) i = y := by
        unfold at'
        rw [List.getD_eq_getElem?_getD, List.getElem?_map, List.getElem?_take, if_pos (by omega), List.getElem?_eq_getElem hi', hy]
        simp
      rw [hg, hy] at hcell
      have hsp : sp = none := by
        have h0 := World.cell?_spot (hc 0 (by omega))
        simpa [Addr.add] using h0
      subst hsp
      refine ⟨b, off, rfl, rfl, ?_, by rw [hat]; exact hy2⟩
      rw [hat]
      rw [Addr.add_lit] at hcell
      exact hcell

end Go.Proofs.YtcnmbenfnpjkjaaGreat
