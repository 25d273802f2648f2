/- parquetryref10.made: lists of darts, laid into a map. Conditions: the rows lie in memory; their darts are the map's, none of the edge's. parquetryref10.Cut, Shrink. Conditions: the map's list lies in memory, the edge is there. parquetryref23: after, without: lists of lists, one by one. Conditions: at most 100000 of each. parquetryref08.Doubles, Triangulation. Conditions: the list is a permutation of an even number that lies in memory. parquetryref08.Triangulation. Conditions: the list is a permutation of an even number that lies in memory. -/
import Derived.Test.YtcnmbenfnpjkjaaGreatZShellNo22
import Derived.Deep.RegionHeld3
import Derived.Deep.RegionLaw
import Derived.Test.YtcnmbenfnpjkjaaGreatZShellNo19
namespace Go.Proofs.YtcnmbenfnpjkjaaGreat
open Go.RowKit
set_option linter.unusedVariables false

theorem build_map2 (a : Option Addr) (n c : Nat) (l : Int) (W : World) : (Instr.build 26 #[(0, .slice a n c), (2, .int .i64 l)]).run Tryz.prog W = .ok (.agg #[.slice a n c, .int .i64 0, .int .i64 l]) W := by
  first | kernel_rfl | rfl

/-- the map that is laid, in its variable -/
structure OutAt (R : Reg) (w0 w : World) (bo gS m : Nat) (T : List Nat) (r l : Int) : Prop where
  ev : Ev R w0 R w
  nb : R bo = none
  blk : w.heap[bo]? = some (.cells #[.slice (some ⟨gS, 0, none⟩) m m, .int .i64 r, .int .i64 l] 26 (0, 0))
  own : OwnI R w0.heap.size 3 w (.slice (some ⟨gS, 0, none⟩) m m) (toI T)
  lt : w0.heap.size ≤ bo
  ne : gS ≠ bo
  len : T.length = m
theorem OutAt.putS {R : Reg} {w0 w : World} {bo gS m : Nat} {T : List Nat} {r l : Int} (h : OutAt R w0 w bo gS m T r l) {i : Nat} (hi : i < m) (y : Nat) : OutAt R w0 (w.setCell ⟨gS, i, none⟩ (.int .i64 ((y : Nat) : Int))) bo gS m (T.set i y) r l where
  ev := h.ev.setCell (h.own.lt gS rfl).1 (h.own.2 gS rfl) _
  nb := h.nb
  blk := by
    rw [Below.heap_setCell _ _ _ _ (by first | exact h.ne | exact h.ne.symm)]
    exact h.blk
  own := by
    have e1 : toI (T.set i y) = (toI T).set i ((y : Nat) : Int) := by simp [toI, List.map_set]
    rw [e1]
    exact h.own.put (by rw [toI_length]; exact h.len) i hi _
  lt := h.lt
  ne := h.ne
  len := by rw [List.length_set]; exact h.len
theorem OutAt.evs {R : Reg} {w0 w w' : World} {bo gS m : Nat} {T : List Nat} {r l : Int} (h : OutAt R w0 w bo gS m T r l) (he : Ev R w R w') : OutAt R w0 w' bo gS m T r l :=
  ⟨h.ev.trans he, h.nb, (he.block _ (lt_of_block h.blk) h.nb).trans h.blk, h.own.ev he, h.lt, h.ne, h.len⟩
theorem OutAt.putR {R : Reg} {w0 w : World} {bo gS m : Nat} {T : List Nat} {r l : Int} (h : OutAt R w0 w bo gS m T r l) (y : Int) : OutAt R w0 (w.setCell ⟨bo, 1, none⟩ (.int .i64 y)) bo gS m T y l := by
  have hnb : (Value.slice (some ⟨gS, 0, none⟩) m m).ownBlock ≠ some (⟨bo, 1, none⟩ : Addr).block := fun e => h.ne (by simpa [Value.ownBlock] using e)
  exact ⟨h.ev.setCell (p := ⟨bo, 1, none⟩) h.lt h.nb _, h.nb, heap_setCell_same _ _ 1 _ _ _ h.blk, h.own.setCell hnb _, h.lt, h.ne, h.len⟩
theorem OutAt.putL {R : Reg} {w0 w : World} {bo gS m : Nat} {T : List Nat} {r l : Int} (h : OutAt R w0 w bo gS m T r l) (y : Int) : OutAt R w0 (w.setCell ⟨bo, 2, none⟩ (.int .i64 y)) bo gS m T r y := by
  have hnb : (Value.slice (some ⟨gS, 0, none⟩) m m).ownBlock ≠ some (⟨bo, 2, none⟩ : Addr).block := fun e => h.ne (by simpa [Value.ownBlock] using e)
  exact ⟨h.ev.setCell (p := ⟨bo, 2, none⟩) h.lt h.nb _, h.nb, heap_setCell_same _ _ 2 _ _ _ h.blk, h.own.setCell hnb _, h.lt, h.ne, h.len⟩
/-- its cells -/
theorem OutAt.cells {R : Reg} {w0 w : World} {bo gS m : Nat} {T : List Nat} {r l : Int} (h : OutAt R w0 w bo gS m T r l) :
    w.cell? ⟨bo, 0, none⟩ = some (.slice (some ⟨gS, 0, none⟩) m m) ∧ w.cell? ⟨bo, 1, none⟩ = some (.int .i64 r) ∧ w.cell? ⟨bo, 2, none⟩ = some (.int .i64 l) ∧ ∀ o, w.frozen? ⟨bo, o, none⟩ = false := box_cells h.blk

/-- laid so far -/
theorem OutAt.drew {R : Reg} {w0 w : World} {bo gS m : Nat} {T : List Nat} {r l : Int} (h : OutAt R w0 w bo gS m T r l) : OutAt R w0 w.drew bo gS m T r l := ⟨h.ev.drew, h.nb, h.blk, h.own.drew, h.lt, h.ne, h.len⟩
theorem rootIn_cons (e x : Nat) (l : List Nat) : rootIn e (x :: l) = if x / 2 = e then rootIn e l else nmL e x := by
  unfold rootIn
  by_cases h : x / 2 = e
  · rw [if_pos h, List.find?_cons_of_neg (by simp [h])]
  · rw [if_neg h, List.find?_cons_of_pos (by simp [h])]
theorem toI_reps (m : Nat) : toI (List.replicate m 0) = List.replicate m 0 := by simp [toI]
theorem out_first {R : Reg} {wb : World} {m : Nat} {l : Int} (hI : Inv R wb) (hm : m ≤ maxLen) :
    OutAt R wb ((wb.alloc (.cells (madeCells #[.int .i64 0] m) 3)).alloc (.cells #[.slice (some ⟨wb.heap.size, 0, none⟩) m m, .int .i64 0, .int .i64 l] 26)).drew (wb.heap.size + 1) wb.heap.size m (List.replicate m 0) 0 l := by
  have h := rowI_made (B := wb.heap.size) (n := m) hI (Nat.le_refl _) hm
  rw [Nat.mul_one] at h
  refine ⟨(((Ev.refl hI).alloc _).alloc _).drew, hI.none_of_ge (by omega), ?_, ?_, by omega, by omega, by simp⟩
  · have e1 := heap_alloc_new (wb.alloc (.cells (madeCells #[.int .i64 0] m) 3)) (.cells #[.slice (some ⟨wb.heap.size, 0, none⟩) m m, .int .i64 0, .int .i64 l] 26)
    have e2 : (wb.alloc (.cells (madeCells #[.int .i64 0] m) 3)).heap.size = wb.heap.size + 1 := by simp
    rw [e2] at e1
    exact e1
  · rw [toI_reps]
    exact (h.alloc _).drew
theorem out_second {R : Reg} {wb : World} {m : Nat} {l : Int} (hI : Inv R wb) (hm : m ≤ maxLen) :
    OutAt R wb ((wb.alloc (.cells #[.slice (some ⟨wb.heap.size + 1, 0, none⟩) m m, .int .i64 0, .int .i64 l] 26)).alloc (.cells (madeCells #[.int .i64 0] m) 3)).drew wb.heap.size (wb.heap.size + 1) m (List.replicate m 0) 0 l := by
  have hev := (Ev.refl hI).alloc (.cells #[.slice (some ⟨wb.heap.size + 1, 0, none⟩) m m, .int .i64 0, .int .i64 l] 26)
  have h := rowI_made (B := wb.heap.size) (n := m) hev.inv (by simp) hm
  rw [Nat.mul_one] at h
  refine ⟨(hev.alloc _).drew, hI.none_of_ge (Nat.le_refl _), ?_, ?_, Nat.le_refl _, by omega, by simp⟩
  · show ((wb.alloc _).alloc _).heap[wb.heap.size]? = _
    rw [Below.heap_alloc _ _ _ (by simp)]
    exact heap_alloc_new wb _
  · rw [toI_reps]
    simpa using h.drew
def layTo (e : Nat) (v S : List Nat) (i : Nat) : List Nat := (List.range i).foldl (fun S i => S.set (nmL e (v.getD i 0)) (nmL e (v.getD (nextI v.length i) 0))) S
theorem layTo_all (e : Nat) (v S : List Nat) : layTo e v S v.length = layV e v S := rfl
theorem layTo_succ (e : Nat) (v S : List Nat) (i : Nat) : layTo e v S (i + 1) = (layTo e v S i).set (nmL e (at' v i)) (nmL e (at' v (nextI v.length i))) := by
  unfold layTo
  rw [List.range_succ, List.foldl_append]
  rfl
theorem layAll_take {e : Nat} {xss : List (List Nat)} {S : List Nat} {k : Nat} (hk : k < xss.length) : layAll e (xss.take (k + 1)) S = layV e (xss.getD k []) (layAll e (xss.take k) S) := by
  unfold layAll
  rw [foldl_take_succ _ _ _ _ hk]
  simp [List.getD, hk]
theorem emptyN_take {xss : List (List Nat)} {k : Nat} (hk : k < xss.length) : emptyN (xss.take (k + 1)) = emptyN (xss.take k) + if (xss.getD k []).length = 0 then 1 else 0 := by
  unfold emptyN
  rw [List.take_add_one, List.map_append, List.sum_append]
  simp [List.getD, hk]
theorem emptyN_le : ∀ (xss : List (List Nat)), 0 ≤ emptyN xss ∧ emptyN xss ≤ xss.length
  | [] => by simp [emptyN]
  | v :: xss => by
    have h := emptyN_le xss
    unfold emptyN at h ⊢
    rw [List.map_cons, List.sum_cons, List.length_cons]
    split <;> omega

set_option maxRecDepth 100000 in
set_option maxHeartbeats 2000000 in
theorem r10made_any (R : Reg) (w : World) (hI : Inv R w) (v : Value) (s : List Nat) (root lone : Int) (hv : FreeI R w v (toI s)) (hS : IsPerm s) (hn : s.length ≤ 1000000) (h2 : 2 ≤ s.length) (e : Nat) (he : 2 * e + 2 ≤ s.length) (hr : 0 ≤ root ∧ root < s.length) (hl : 0 ≤ lone ∧ lone ≤ 65536)
    (B : Nat) (a : Option Addr) (c : Nat) (vs : List Value) (xss : List (List Nat)) (hO : OwnV R B 24 1 w (.slice a xss.length c) xss.length vs) (hW : RowsLL R w (fun k => (Value.slice a xss.length c).ownBlock = some k) vs xss) (hx : ∀ v, v ∈ xss → ∀ x, x ∈ v → x < s.length ∧ ¬ x / 2 = e) (hN : xss.length ≤ 1000000) (hrl : ∀ v, v ∈ xss → v.length ≤ 1000000) :
    Calls Tryz.prog 60 #[refV v root lone, .slice a xss.length c, .int .i64 (e : Int)] w (RetMap R w (layAll e xss (List.replicate (s.length - 2) 0)) (rootL s e root.toNat) (lone + emptyN xss)) := by
  obtain ⟨r0, rfl⟩ : ∃ r0 : Nat, root = (r0 : Int) := ⟨root.toNat, by omega⟩
  rw [Int.toNat_natCast]
  obtain ⟨a0, cap0, rfl, hv0⟩ := hv.open
  rw [toI_length] at hv hv0 ⊢
  obtain ⟨n, hnn⟩ : ∃ n, s.length = n := ⟨_, rfl⟩
  obtain ⟨m, hm⟩ : ∃ m, n - 2 = m := ⟨_, rfl⟩
  rw [hnn] at hn h2 he hr hx ⊢
  have HNn := Lib.hid hnn
  have HMm := Lib.hid hm
  have HOv := Lib.hid (fun R' w' (hee : Ev R w R' w') => hO.ev hee)
  have HRw := Lib.hid (fun R' w' (hee : Ev R w R' w') => hW.ev hee)
  have HX := Lib.hid hx
  have HRl := Lib.hid hrl
  have HVl := Lib.hid hW.len
  have HInv := Lib.hid (fun w' (hee : Ev R w R w') => rinverse_any R w' hee.inv _ s (hv.ev hee) hS (by omega))
  have HOrb := Lib.hid (fun w' (hee : Ev R w R w') u (hu : FreeI R w' u (toI (invL s))) => rorbit_any R w' hee.inv u (invL s) hu (invL_perm hS) (by rw [invL_length]; omega) r0 (by rw [invL_length]; omega))
  have HEm := Lib.hid (fun xs => emptyN_le xs)
  rw [hnn] at HInv
  have HS := Lib.hid hS
  obtain ⟨N, hNN⟩ : ∃ N, xss.length = N := ⟨_, rfl⟩
  rw [hNN] at hN HOv HRw HVl ⊢
  have HNN := Lib.hid hNN
  have hw2 : IntKind.i64.wrap ((n : Int) - 2) = (m : Int) := by rw [show (n : Int) - 2 = (m : Int) by omega]; exact IntWalk.i64_in _ (by omega)
  obtain ⟨i0, hi, hz0, hz1, hz2⟩ := info_parts int_info
  have hms1 := make_eq (n := m) Tryz.underlying24 hi hz0 hz1 (by rw [hz2]; omega) (by unfold maxLen; omega)
  have hbd := build_map2
  have HI := Lib.hid hI
  have HT0 := Lib.hid (show List.replicate (n - 2) 0 = List.replicate m (0 : Nat) by rw [hm])
  obtain ⟨z, hz⟩ : ∃ z, i0.zero = z := ⟨_, rfl⟩
  unfold refV
  -- the variables of the map, of the result
  have he1 : Ev R w R ((w.alloc (.cells #[.slice a0 n cap0, .int .i64 (r0 : Int), .int .i64 lone] 26)).alloc (.cells #[.slice none 0 0, .int .i64 0, .int .i64 0] 26)) := ((Ev.refl hI).alloc _).alloc _
  have hb1 : ((w.alloc (.cells #[.slice a0 n cap0, .int .i64 (r0 : Int), .int .i64 lone] 26)).alloc (.cells #[.slice none 0 0, .int .i64 0, .int .i64 0] 26)).heap[w.heap.size]? = some (.cells #[.slice a0 n cap0, .int .i64 (r0 : Int), .int .i64 lone] 26 (0, 0)) := by
    rw [Below.heap_alloc _ _ _ (by simp)]
    exact heap_alloc_new w _
  have hb2 : ((w.alloc (.cells #[.slice a0 n cap0, .int .i64 (r0 : Int), .int .i64 lone] 26)).alloc (.cells #[.slice none 0 0, .int .i64 0, .int .i64 0] 26)).heap[w.heap.size + 1]? = some (.cells #[.slice none 0 0, .int .i64 0, .int .i64 0] 26 (0, 0)) := by
    have := heap_alloc_new (w.alloc (.cells #[.slice a0 n cap0, .int .i64 (r0 : Int), .int .i64 lone] 26)) (.cells #[.slice none 0 0, .int .i64 0, .int .i64 0] 26)
    simpa using this
  have hn1 : R w.heap.size = none := hI.none_of_ge (Nat.le_refl _)
  have hn2 : R (w.heap.size + 1) = none := hI.none_of_ge (by omega)
  go_enter Tryz.func60, Tryz.ntmps60
  go_upto_region 1 with fail
  obtain ⟨wb, hwb⟩ : ∃ wb, wb = (w.alloc (.cells #[.slice a0 n cap0, .int .i64 (r0 : Int), .int .i64 lone] 26)).alloc (.cells #[.slice none 0 0, .int .i64 0, .int .i64 0] 26) := ⟨_, rfl⟩
  have hwz : wb.heap.size = w.heap.size + 1 + 1 := by rw [hwb]; simp
  rw [← hwb] at he1 hb1 hb2 ⊢
  have HB1 := Lib.hid (fun w' (h : Ev R wb R w') => h.box3 hb1 hn1)
  have HB2 := Lib.hid (fun w' (h : Ev R wb R w') => h.box3 hb2 hn2)
  have HEb := Lib.hid he1
  obtain ⟨x0, x1, x2, _⟩ := box_cells hb1
  have HZb := Lib.hid hwz
  have HMl := Lib.hid (show m ≤ maxLen by unfold maxLen; omega)
  have hlt0 : w.heap.size < wb.heap.size := by omega
  clear hwb hb1 hb2 hn1 hn2 hI hv hv0 hS he1 hnn hm hO hW hx hrl hNN hwz
  go_cut [7] (fun s7 wx => ∃ bo gS, s7 = .pointer (some ⟨bo, 0, none⟩) ∧ OutAt R wb wx bo gS m (List.replicate m 0) 0 lone)
  case first =>
    go_region
    all_goals (go_wp2_with fail; go_meet)
    all_goals first
      | exact ⟨_, _, rfl, out_first HEb.out.inv HMl.out⟩
      | exact ⟨_, _, rfl, out_second HEb.out.inv HMl.out⟩
  case rest =>
    obtain ⟨bo, gS, rfl, hout⟩ := hcut
    obtain ⟨w4, hw4⟩ : ∃ w4, w4 = wc := ⟨_, rfl⟩
    subst hw4
    have HOut := Lib.hid hout
    have HE4 := Lib.hid (HEb.out.trans hout.ev)
    have HGs := Lib.hid (hout.own.lt gS rfl)
    obtain ⟨T0, hT0⟩ : ∃ T0, List.replicate m (0 : Nat) = T0 := ⟨_, rfl⟩
    rw [hT0] at HOut
    have HT1 := Lib.hid (HT0.out.trans hT0)
    clear hout hms1 hbd hi hz0 hz1 hz2 hz hT0 x0 x1 x2 hw2
    go_wp2_with fail
    go_loopg [25] N (fun g v25 wr => ∃ k : Nat, k ≤ N ∧ N - k ≤ g ∧ v25 = .int .i64 (k : Int) ∧ OutAt R wb wr bo gS m (layAll e (xss.take k) T0) 0 (lone + emptyN (xss.take k)))
    case atStart => exact ⟨0, Nat.zero_le _, by omega, rfl, by
      have h := HOut.out
      simpa [layAll, emptyN] using h⟩
    case round =>
      obtain ⟨k, hk, hg, rfl, hout⟩ := hrel
      have HO := Lib.hid hout
      clear hout
      by_cases hkN : k < N
      · have hkx : k < xss.length := by rw [HNN.out]; exact hkN
        have hEw := HEb.out.trans HO.out.ev
        obtain ⟨u, hu1, aX, cX, hu2, huf, huo⟩ := (HRw.out _ _ hEw).row k hkx
        subst hu2
        obtain ⟨gl, rfl, _, _, hcl, _⟩ := (HOv.out _ _ hEw).headAt (i := k) (by rw [HVl.out]; exact hkN)
        rw [hu1] at hcl
        have hXm : xss.getD k [] ∈ xss := by rw [show xss.getD k [] = xss[k] by simp [List.getD, hkx]]; exact List.getElem_mem hkx
        have hX := HX.out _ hXm
        have hXl := HRl.out _ hXm
        have hlt := layAll_take (e := e) (S := T0) hkx
        have het := emptyN_take hkx
        have hEml := HEm.out (xss.take k)
        rw [List.length_take] at hEml
        obtain ⟨X, hXX⟩ : ∃ X, xss.getD k [] = X := ⟨_, rfl⟩
        rw [hXX] at huf huo hcl hX hXl hlt het
        obtain ⟨L, hL⟩ : ∃ L, X.length = L := ⟨_, rfl⟩
        rw [hL] at huf huo hcl hXl het
        have HLl := Lib.hid hL
        have HXs := Lib.hid (show ∀ x, x ∈ X → x < n ∧ ¬ x / 2 = e from hX)
        obtain ⟨TT, hTT⟩ : ∃ T, layAll e (xss.take k) T0 = T := ⟨_, rfl⟩
        obtain ⟨ll, hll⟩ : ∃ l, lone + emptyN (xss.take k) = l := ⟨_, rfl⟩
        have hllb : 0 ≤ ll ∧ ll ≤ 2000000 := by
          have h1 : ((min k xss.length : Nat) : Int) ≤ 1000000 := by rw [HNN.out]; omega
          omega
        rw [hTT, hll] at HO
        rw [hTT] at hlt
        have HLt := Lib.hid hlt
        have HEt := Lib.hid (show lone + emptyN (xss.take (k + 1)) = ll + if L = 0 then 1 else 0 by rw [het, ← hll]; omega)
        have HUf := Lib.hid (show ∀ w', Ev R w R w' → FreeI R w' (.slice aX L cX) (toI X) from fun w' hee => by
          obtain ⟨u', h1', a', c', e', hf', _⟩ := (HRw.out _ _ hee).row k hkx
          rw [hXX] at e' hf'
          rw [hL] at e' hf'
          rw [hu1, e'] at h1'
          cases h1'
          exact hf')
        have HEw := Lib.hid hEw
        clear hTT hll hX hXX hL hlt het hEml hXm hu1 hEw huo hkx
        by_cases hL0 : L = 0
        · subst hL0
          obtain ⟨c0, c1, c2, cz⟩ := HO.out.cells
          have hwl : IntKind.i64.wrap (ll + 1) = ll + 1 := IntWalk.i64_in _ (by omega)
          have HOl := Lib.hid (HO.out.putL (ll + 1))
          have HEt1 := Lib.hid (show lone + emptyN (xss.take (k + 1)) = ll + 1 by rw [HEt.out]; simp)
          have HLt1 : Hid (layAll e (xss.take (k + 1)) T0 = TT) := Lib.hid (by
            rw [HLt.out]
            unfold layV
            rw [HLl.out]
            rfl)
          clear huf
          go_wp2_with fail
          go_loopg [38] 0 (fun g v38 wq => v38 = .int .i64 0 ∧ OutAt R wb wq bo gS m TT 0 (ll + 1))
          case atStart => exact ⟨rfl, HOl.out⟩
          case round =>
            obtain ⟨rfl, ho⟩ := hrel
            have HOz := Lib.hid ho
            clear ho c0 c1 c2 cz hcl
            go_wp2_with fail
            go_roundg (N - (k + 1))
            case measure => omega
            case rel => exact ⟨k + 1, by omega, by omega, by go_num, by rw [HLt1.out, HEt1.out]; exact HOz.out⟩
        · have HEt1 := Lib.hid (show lone + emptyN (xss.take (k + 1)) = ll by rw [HEt.out, if_neg hL0]; omega)
          have HLn := Lib.hid hL0
          obtain ⟨aY, oY, rfl, hY0⟩ := huf.1.cell (i := 0) (by rw [toI_length, HLl.out]; omega)
          have hbL : ((L : Int) == 0) = false := by simp; omega
          clear huf
          go_wp2_with fail
          obtain ⟨w6, hw6⟩ : ∃ w6, w6 = wr := ⟨_, rfl⟩
          subst hw6
          clear hY0 hcl
          go_loopg [38] L (fun g v38 wq => ∃ i : Nat, i ≤ L ∧ L - i ≤ g ∧ v38 = .int .i64 (i : Int) ∧ OutAt R wb wq bo gS m (layTo e X TT i) 0 ll)
          case atStart => exact ⟨0, Nat.zero_le _, by omega, rfl, HO.out⟩
          case round =>
            obtain ⟨i, hi, hg2, rfl, ho⟩ := hrel
            have HOi := Lib.hid ho
            clear ho
            by_cases hiL : i < L
            · have hsu := layTo_succ e X TT i
              have hf := HUf.out _ (HEb.out.trans HOi.out.ev)
              have hcells : ∀ j, j < L → wr.cell? ⟨aY, oY + j, none⟩ = some (.int .i64 ((at' X j : Nat) : Int)) ∧ at' X j < n ∧ ¬ at' X j / 2 = e := fun j hj => by
                obtain ⟨b', o', e1, hc⟩ := hf.1.cell (i := j) (by rw [toI_length, HLl.out]; exact hj)
                cases e1
                rw [toI_nth] at hc
                have hjX : j < X.length := by rw [HLl.out]; exact hj
                exact ⟨hc, HXs.out _ (by rw [at'_eq hjX]; exact List.getElem_mem hjX)⟩
              have hc0 := (hcells 0 (by omega)).1
              obtain ⟨hci, hdn, hde⟩ := hcells i hiL
              have HCe := Lib.hid hcells
              obtain ⟨i2, hi2⟩ : ∃ j, i + 1 = j := ⟨_, rfl⟩
              have hwi : IntKind.i64.wrap ((i : Int) + 1) = (i2 : Int) := by rw [show (i : Int) + 1 = (i2 : Int) by omega]; exact IntWalk.i64_in _ (by omega)
              obtain ⟨d, hd⟩ : ∃ d, at' X i = d := ⟨_, rfl⟩
              rw [hd] at hci hdn hde hsu
              obtain ⟨d0, hd0⟩ : ∃ d, at' X 0 = d := ⟨_, rfl⟩
              rw [hd0] at hc0
              simp only [Nat.add_zero] at hc0
              rw [HLl.out] at hsu
              clear hf hcells hd
              by_cases hlast : i2 < L
              · have hnx : nextI L i = i2 := by unfold nextI; rw [if_pos (by omega), hi2]
                obtain ⟨hcx, hxn, hxe⟩ := HCe.out i2 hlast
                rw [hnx] at hsu
                obtain ⟨d2, hd2⟩ : ∃ d, at' X i2 = d := ⟨_, rfl⟩
                rw [hd2] at hcx hxn hxe hsu
                clear hd2 hnx hd0
                obtain ⟨q, hq⟩ : ∃ q, nmL e d = q := ⟨_, rfl⟩
                obtain ⟨y, hy⟩ : ∃ y, nmL e d2 = y := ⟨_, rfl⟩
                have hqm : q < m := by
                  have h1 := nmL_lt (n := n) (by omega) hde hdn
                  rw [hq, HMm.out] at h1
                  exact h1
                have HN1 := Lib.hid (r10name_any wr.drew d e (by omega) (by omega) hde)
                have HN2 := Lib.hid (r10name_any wr.drew d2 e (by omega) (by omega) hxe)
                rw [hq] at HN1 hsu
                rw [hy] at HN2 hsu
                have HSu := Lib.hid hsu
                have HPut := Lib.hid (HOi.out.putS hqm y)
                obtain ⟨c0, c1, c2, cz⟩ := HOi.out.cells
                obtain ⟨_, e6, hB6, hR6, hc6, hz6⟩ := HOi.out.own.headAt (by rw [toI_length]; exact HOi.out.len) hqm
                cases e6
                clear hq hy hsu c1 c2 cz
                go_wp2_with fail
                go_still_tail 9, (by kernel_rfl)
                still_call (Calls.drewS HN1.out)
                repeat still_step
                still_call (Calls.drewS HN2.out)
                repeat still_step
                refine wpStill_nil ?_
                change wpList _ _ _ _ _ wr.drew
                obtain ⟨w7, hw7⟩ : ∃ w7, w7 = wr.drew := ⟨_, rfl⟩
                have hz7 : w7.frozen? ⟨gS, q, none⟩ = false := by rw [hw7]; exact hz6
                have hc7 : w7.cell? ⟨gS, q, none⟩ = some (.int .i64 (nth (toI (layTo e X TT i)) q)) := by rw [hw7]; exact hc6
                have HO7 : Hid (OutAt R wb (w7.setCell ⟨gS, q, none⟩ (.int .i64 ((y : Nat) : Int))) bo gS m (layTo e X TT (i + 1)) 0 ll) := Lib.hid (by
                  rw [hw7, HSu.out]
                  exact HOi.out.drew.putS hqm y)
                rw [← hw7]
                clear hw7 hz6 hc6 HPut c0 hci hc0
                go_wp2_with fail
                go_roundg (L - (i + 1))
                case measure => omega
                case rel => exact ⟨i + 1, by omega, by omega, by go_num, HO7.out⟩
              · have hnx : nextI L i = 0 := by unfold nextI; rw [if_neg (by omega)]
                obtain ⟨_, hxn, hxe⟩ := HCe.out 0 (by omega)
                rw [hnx, hd0] at hsu
                rw [hd0] at hxn hxe
                obtain ⟨d2, hd2⟩ : ∃ d, d0 = d := ⟨_, rfl⟩
                subst hd2
                clear hnx hd0
                obtain ⟨q, hq⟩ : ∃ q, nmL e d = q := ⟨_, rfl⟩
                obtain ⟨y, hy⟩ : ∃ y, nmL e d0 = y := ⟨_, rfl⟩
                have hqm : q < m := by
                  have h1 := nmL_lt (n := n) (by omega) hde hdn
                  rw [hq, HMm.out] at h1
                  exact h1
                have HN1 := Lib.hid (r10name_any wr.drew d e (by omega) (by omega) hde)
                have HN2 := Lib.hid (r10name_any wr.drew d0 e (by omega) (by omega) hxe)
                rw [hq] at HN1 hsu
                rw [hy] at HN2 hsu
                have HSu := Lib.hid hsu
                have HPut := Lib.hid (HOi.out.putS hqm y)
                obtain ⟨c0, c1, c2, cz⟩ := HOi.out.cells
                obtain ⟨_, e6, hB6, hR6, hc6, hz6⟩ := HOi.out.own.headAt (by rw [toI_length]; exact HOi.out.len) hqm
                cases e6
                clear hq hy hsu c1 c2 cz
                go_wp2_with fail
                go_still_tail 9, (by kernel_rfl)
                still_call (Calls.drewS HN1.out)
                repeat still_step
                still_call (Calls.drewS HN2.out)
                repeat still_step
                refine wpStill_nil ?_
                change wpList _ _ _ _ _ wr.drew
                obtain ⟨w7, hw7⟩ : ∃ w7, w7 = wr.drew := ⟨_, rfl⟩
                have hz7 : w7.frozen? ⟨gS, q, none⟩ = false := by rw [hw7]; exact hz6
                have hc7 : w7.cell? ⟨gS, q, none⟩ = some (.int .i64 (nth (toI (layTo e X TT i)) q)) := by rw [hw7]; exact hc6
                have HO7 : Hid (OutAt R wb (w7.setCell ⟨gS, q, none⟩ (.int .i64 ((y : Nat) : Int))) bo gS m (layTo e X TT (i + 1)) 0 ll) := Lib.hid (by
                  rw [hw7, HSu.out]
                  exact HOi.out.drew.putS hqm y)
                rw [← hw7]
                clear hw7 hz6 hc6 HPut c0 hci hc0
                go_wp2_with fail
                go_roundg (L - (i + 1))
                case measure => omega
                case rel => exact ⟨i + 1, by omega, by omega, by go_num, HO7.out⟩
            · obtain rfl : i = L := by omega
              have HOz : Hid (OutAt R wb wr bo gS m (layAll e (xss.take (k + 1)) T0) 0 (lone + emptyN (xss.take (k + 1)))) := Lib.hid (by
                have h := HOi.out
                rw [← HLl.out, layTo_all] at h
                rw [HEt1.out, HLt.out]
                exact h)
              go_wp2_with fail
              go_roundg (N - (k + 1))
              case measure => omega
              case rel => exact ⟨k + 1, by omega, by omega, by go_num, HOz.out⟩
      · obtain rfl : k = N := by omega
        have HOz : Hid (OutAt R wb wr bo gS m (layAll e xss T0) 0 (lone + emptyN xss)) := Lib.hid (by
          have h := HO.out
          rwa [← HNN.out, List.take_length] at h)
        obtain ⟨TT, hTT⟩ : ∃ T, layAll e xss T0 = T := ⟨_, rfl⟩
        obtain ⟨ll, hll⟩ : ∃ l, lone + emptyN xss = l := ⟨_, rfl⟩
        rw [hTT, hll] at HOz
        have HTl := Lib.hid (show layAll e xss (List.replicate (n - 2) 0) = TT by rw [HT1.out, hTT])
        have HLl := Lib.hid hll
        have hsl := HNn.out
        clear hTT hll HO
        obtain ⟨c0, c1, c2, cz⟩ := HOz.out.cells
        by_cases hm0 : m = 0
        · have hrt : rootL s e r0 = -1 := by unfold rootL; rw [if_pos (by have := HMm.out; omega)]
          have HRt := Lib.hid hrt
          obtain rfl : m = 0 := hm0
          have hOf := HOz.out.putR (-1)
          clear hrt
          go_upto_region 25 with fail
          obtain ⟨w7, hw7⟩ : ∃ w7, w7 = wr.setCell ⟨bo, 1, none⟩ (.int .i64 (-1)) := ⟨_, rfl⟩
          rw [← hw7] at hOf ⊢
          have HOf := Lib.hid hOf
          clear hw7 hOf c0 c1 c2 cz
          obtain ⟨c0, c1, c2, cz⟩ := HOf.out.cells
          obtain ⟨y0, y1, y2, yz⟩ := box_cells (HB2.out _ HOf.out.ev).1
          go_wp2_with fail
          have hb3 := set3 (x := .slice (some ⟨gS, 0, none⟩) 0 0) (y := .int .i64 (-1)) (z := .int .i64 ll) (HB2.out _ HOf.out.ev).1
          obtain ⟨u0, u1, u2, _⟩ := box_cells hb3
          have hn2 := (HB2.out _ HOf.out.ev).2
          have hgr := (HOf.out.own.lt gS rfl).1
          refine bodyPost_ret (v := refV (.slice (some ⟨gS, 0, none⟩) 0 0) (-1) ll) ?_ rfl ?_
          · simp [results, Tryz.results60, go_sem, u0, u1, u2, refV]
          · rw [HTl.out, HLl.out, HRt.out]
            refine ⟨some ⟨gS, 0, none⟩, 0, by rw [HOf.out.len], ?_, ?_⟩
            · exact (((HEb.out.trans HOf.out.ev).setCell (by simp) hn2 _).setCell (by simp) hn2 _).setCell (by simp) hn2 _
            · have hne : ∀ (o : Nat), (Value.slice (some ⟨gS, 0, none⟩) 0 0).ownBlock ≠ some (⟨w.heap.size + 1, o, none⟩ : Addr).block := fun o e' => by
                have h1 : gS = w.heap.size + 1 := by simpa [Value.ownBlock] using e'
                have h2 := HZb.out
                omega
              rw [HOf.out.len]
              exact (((HOf.out.own.mono (by have := HZb.out; omega)).setCell (hne 0) _).setCell (hne 1) _).setCell (hne 2) _
        · have hmp : 0 < m := by omega
          have hmf : decide ((0 : Int) < (m : Int)) = true := by simp; omega
          have hrt : rootL s e r0 = ((rootIn e (orbitL (invL s) r0) : Nat) : Int) := by
            unfold rootL
            rw [if_neg (by have := HMm.out; omega), rootGo_orbit HS.out (by omega)]
          have hO7 := (HOz.out.putR (-1)).putR 0
          go_upto_region 19 with fail
          obtain ⟨w7, hw7⟩ : ∃ w7, w7 = (wr.setCell ⟨bo, 1, none⟩ (.int .i64 (-1))).setCell ⟨bo, 1, none⟩ (.int .i64 0) := ⟨_, rfl⟩
          first
            | rw [← hw7]
            | (rw [show wr.setCell ⟨bo, 1, none⟩ (.int .i64 0) = w7 by rw [hw7]; simp])
          rw [← hw7] at hO7
          have HO7 := Lib.hid hO7
          have HEw := Lib.hid (HEb.out.trans hO7.ev)
          have hbo7 : bo < w7.heap.size := lt_of_block hO7.blk
          have HBo := Lib.hid hbo7
          obtain ⟨O, hO⟩ : ∃ O, orbitL (invL s) r0 = O := ⟨_, rfl⟩
          rw [hO] at HOrb hrt
          have hOl : O.length ≤ 1000001 := by
            rw [← hO]
            have := orbitL_length (invL s) r0
            rw [invL_length] at this
            omega
          have HOlt : Hid (∀ j, j < O.length → at' O j < n) := Lib.hid fun j hj => by
            have h1 := orbitL_lt (invL_perm HS.out) (i := r0) (by rw [invL_length]; omega) (at' O j) (by rw [hO, at'_eq hj]; exact List.getElem_mem hj)
            rw [invL_length] at h1
            omega
          obtain ⟨K, hK⟩ : ∃ K, O.length = K := ⟨_, rfl⟩
          have HK := Lib.hid hK
          rw [hK] at hOl HOlt
          have HEd := Lib.hid ((Ev.refl hO7.ev.inv).drew)
          obtain ⟨x0, x1, x2, _⟩ := box_cells (HB1.out _ (hO7.ev.trans HEd.out)).1
          have HRt := Lib.hid hrt
          clear hw7 hO7 c0 c1 c2 cz hmf hrt hO hK hbo7
          go_cut [13] (fun s13 wx => ∃ aL cL, s13 = .slice aL K cL ∧ OutAt R wb wx bo gS m TT 0 ll ∧ OwnI R w7.heap.size 3 wx (.slice aL K cL) (toI O))
          case first =>
            go_region_with (first
              | (go_at_call 79; refine (HInv.out _ (HEw.out.trans HEd.out)).mono ?_; rintro z w8 ⟨v8, rfl, he8, ho8⟩; obtain ⟨a8, c8, rfl, _⟩ := ho8.ints.open; have HF8 := Lib.hid ho8.free; have HEd := Lib.hid (HEd.out.trans he8); clear he8 ho8; obtain ⟨x0, x1, x2, _⟩ := box_cells (HB1.out _ (HO7.out.ev.trans HEd.out)).1)
              | (go_at_call 56; refine (HOrb.out _ (HEw.out.trans HEd.out) _ HF8.out).mono ?_; rintro z w9 ⟨v9, rfl, he9, ho9⟩; obtain ⟨a9, c9, rfl, _⟩ := ho9.ints.open; rw [toI_length, HK.out] at ho9 ⊢; have HO9 := Lib.hid (ho9.mono HEd.out.size); have HEd := Lib.hid (HEd.out.trans he9); clear he9 ho9; obtain ⟨x0, x1, x2, _⟩ := box_cells (HB1.out _ (HO7.out.ev.trans HEd.out)).1))
            all_goals (go_wp2_with fail; go_meet)
            all_goals exact ⟨_, _, rfl, HO7.out.evs HEd.out, HO9.out⟩
          case rest =>
            obtain ⟨aL, cL, rfl, ho, hf⟩ := hcut
            obtain ⟨w9, hw9⟩ : ∃ w9, w9 = wc := ⟨_, rfl⟩
            subst hw9
            have HO9 := Lib.hid ho
            have HF9 := Lib.hid hf
            have hwK : IntKind.i64.wrap ((K : Int) - 1) = (K : Int) - 1 := IntWalk.i64_in _ (by omega)
            clear ho hf x0 x1 x2
            go_wp2_with fail
            go_loopg [14] K (fun g v14 wr => ∃ (j : Nat) (t : Int), j ≤ K ∧ j ≤ g ∧ t = (j : Int) - 1 ∧ v14 = .int .i64 t ∧ OutAt R wb wr bo gS m TT ((rootIn e (O.drop j) : Nat) : Int) ll ∧ OwnI R w7.heap.size 3 wr (.slice aL K cL) (toI O))
            case atStart => exact ⟨K, _, Nat.le_refl _, Nat.le_refl _, rfl, rfl, by rw [← HK.out, List.drop_length]; exact HO9.out, HF9.out⟩
            case round =>
              obtain ⟨j, t, hjK, hg, ht, rfl, ho, hf⟩ := hrel
              have HOj := Lib.hid ho
              have HFj := Lib.hid hf
              clear ho hf
              cases j with
              | zero =>
                obtain rfl : t = -1 := by omega
                clear ht
                have HOf := HOj
                rw [List.drop_zero] at HOf
                obtain ⟨rr, hrr⟩ : ∃ x, ((rootIn e O : Nat) : Int) = x := ⟨_, rfl⟩
                rw [hrr] at HOf HRt
                clear hrr HOj
                go_upto_region 25 with fail
                obtain ⟨c0, c1, c2, cz⟩ := HOf.out.cells
                obtain ⟨y0, y1, y2, yz⟩ := box_cells (HB2.out _ HOf.out.ev).1
                go_wp2_with fail
                have hb3 := set3 (x := .slice (some ⟨gS, 0, none⟩) m m) (y := .int .i64 rr) (z := .int .i64 ll) (HB2.out _ HOf.out.ev).1
                obtain ⟨u0, u1, u2, _⟩ := box_cells hb3
                have hn2 := (HB2.out _ HOf.out.ev).2
                have hgr := (HOf.out.own.lt gS rfl).1
                refine bodyPost_ret (v := refV (.slice (some ⟨gS, 0, none⟩) m m) rr ll) ?_ rfl ?_
                · simp [results, Tryz.results60, go_sem, u0, u1, u2, refV]
                · rw [HTl.out, HLl.out, HRt.out]
                  refine ⟨some ⟨gS, 0, none⟩, m, by rw [HOf.out.len], ?_, ?_⟩
                  · exact (((HEb.out.trans HOf.out.ev).setCell (by simp) hn2 _).setCell (by simp) hn2 _).setCell (by simp) hn2 _
                  · have hne : ∀ (o : Nat), (Value.slice (some ⟨gS, 0, none⟩) m m).ownBlock ≠ some (⟨w.heap.size + 1, o, none⟩ : Addr).block := fun o e' => by
                      have h1 : gS = w.heap.size + 1 := by simpa [Value.ownBlock] using e'
                      have h2 := HZb.out
                      omega
                    rw [HOf.out.len]
                    exact (((HOf.out.own.mono (by have := HZb.out; omega)).setCell (hne 0) _).setCell (hne 1) _).setCell (hne 2) _
              | succ j =>
                obtain rfl : t = (j : Int) := by omega
                clear ht
                obtain ⟨gL, rfl, _, _, hcx, _⟩ := HFj.out.headAt (by rw [toI_length, HK.out]) (i := j) (by omega)
                rw [toI_nth] at hcx
                have hxl := HOlt.out j (by omega)
                have hdr : O.drop j = at' O j :: O.drop (j + 1) := by
                  rw [List.drop_eq_getElem_cons (by rw [HK.out]; omega), at'_eq (by rw [HK.out]; omega)]
                obtain ⟨x, hx⟩ : ∃ x, at' O j = x := ⟨_, rfl⟩
                rw [hx] at hcx hxl hdr
                have hw1 : wrap64 ((x : Int) / 2) = (x : Int) / 2 := by unfold wrap64; omega
                have hwj : IntKind.i64.wrap ((j : Int) - 1) = (j : Int) - 1 := IntWalk.i64_in _ (by omega)
                have hric := rootIn_cons e x (O.drop (j + 1))
                rw [← hdr] at hric
                obtain ⟨rr, hrr⟩ : ∃ x, ((rootIn e (O.drop (j + 1)) : Nat) : Int) = x := ⟨_, rfl⟩
                rw [hrr] at HOj
                clear hx hdr
                by_cases hxe : x / 2 = e
                · have hb : ((x : Int) / 2 != (e : Int)) = false := by simp; omega
                  rw [if_pos hxe] at hric
                  have HRc := Lib.hid (show ((rootIn e (O.drop j) : Nat) : Int) = rr by rw [hric, hrr])
                  clear hric hrr hxe
                  go_wp2_with fail
                  go_roundg j
                  case measure => omega
                  case rel => exact ⟨j, _, by omega, Nat.le_refl _, rfl, rfl, by rw [HRc.out]; exact HOj.out, HFj.out⟩
                · have hb : ((x : Int) / 2 != (e : Int)) = true := by simp; omega
                  rw [if_neg hxe] at hric
                  have HNx := Lib.hid (r10name_any wr x e (by omega) (by omega) hxe)
                  have HRc := Lib.hid hric
                  obtain ⟨y, hy⟩ : ∃ y, nmL e x = y := ⟨_, rfl⟩
                  rw [hy] at HNx HRc
                  obtain ⟨c0, c1, c2, cz⟩ := HOj.out.cells
                  have HOp := Lib.hid (HOj.out.putR (y : Int))
                  have HFp := Lib.hid (HFj.out.setCell (a := ⟨bo, 1, none⟩) (fun e' => by
                    have h1 := (HFj.out.lt _ e').1
                    have h2 := HBo.out
                    simp at h1
                    omega) (.int .i64 (y : Int)))
                  clear hric hrr hxe hy
                  go_wp2_with fail
                  refine HNx.out.mono ?_
                  rintro z w' ⟨rfl, rfl⟩
                  go_wp2_with fail
                  go_roundg j
                  case measure => omega
                  case rel => exact ⟨j, _, by omega, Nat.le_refl _, rfl, rfl, by rw [HRc.out]; exact HOp.out, HFp.out⟩

end Go.Proofs.YtcnmbenfnpjkjaaGreat

namespace Go.Proofs.YtcnmbenfnpjkjaaGreat
open Go.RowKit
set_option linter.unusedVariables false

/-- append of elements to one's own row, in a region that draws -/
theorem step_app_row {ops : Array Oper} {o : Oper} {a : Act} {w : World} {K : Act → World → Prop} {Q : Exit → Act → World → Prop} {E0 : Prop} (t E sz bytes : Nat) (z : Value) (ht : Tryz.prog.underlying t = some (.slice E)) (hin : (Tryz.prog.info? E).map (fun i => (i.zero, i.size, i.bytes)) = some (some z, sz, bytes)) (hzs : z.cells.size = sz) (hsz : 0 < sz) (hby : bytes ≤ 4096)
    (hgd : o.guard = none) (s x : Operand)
    (ho : o.op = .call { callee := .builtin .append, args := #[s, x], argTypes := #[t, t] })
    {R : Reg} {B : Nat} {v : Value} {n : Nat} {xs : List Value} (hown : OwnV R B E sz w v n xs) (hs : a.eval s = v) (ad : Addr) (m c : Nat) (ys : List Value) (hm : ys.length = m * sz) (hx : a.eval x = .slice (some ad) m c)
    (hc : ∀ j u, ys[j]? = some u → w.cell? (ad.add j) = some u) (h1 : ∀ u ∈ ys, u.oneCell' = true) (hn : n + m ≤ 8388608) (hB : B ≤ w.heap.size) (hR : ∀ k, w.heap.size ≤ k → R k = none)
    (h : ∀ v' w', OwnV R B E sz w' v' (n + m) (xs ++ ys) → w.grownBy w' v.ownBlock → (∀ k, v'.ownBlock = some k → v.ownBlock = some k ∨ w.heap.size ≤ k) → K (a.put o.dst v') w') :
    if Region.wanted o (yielded ops a.tmps) = true then Oper.wp Tryz.prog o a w K Q else E0 := by
  have hw : Region.wanted o (yielded ops a.tmps) = true := by simp [Region.wanted, hgd]
  rw [if_pos hw]
  obtain ⟨i0, hi, hz0, hz1, hz2⟩ := info_parts hin
  obtain ⟨v', w', hr, h2, h3, h4⟩ := run_append_where (P := Tryz.prog) w B t o.type E i0 z sz bytes ht hi hz0 hz1 hz2 hzs hsz v n _ hown.1 ad m c ys hm hc h1 (by unfold maxLen; omega)
    (Nat.le_trans (Nat.mul_le_mul hn hby) (by decide)) hB
  unfold Oper.wp execOp
  simp only [ho, resolve, invoke, builtin, Sem.run_bind, Sem.run_pure, Result.andThen_ok, List.map_toArray, List.map_cons, List.map_nil, hs, hx, hr]
  refine h v' w' ⟨h2, ?_⟩ h3 h4
  intro k hk
  rcases h4 k hk with e | e
  · exact hown.2 k e
  · exact hR k e

theorem one_cell (w : World) (u : Value) : ∀ j x, [u][j]? = some x → (w.alloc (.cells #[u] 24)).cell? ((⟨w.heap.size, 0, none⟩ : Addr).add j) = some x := by
  intro j x hj
  match j, hj with
  | 0, hj =>
    simp only [List.getElem?_cons_zero, Option.some.injEq] at hj
    subst hj
    simp [Addr.add]
theorem one_one (a : Option Addr) (n c : Nat) : ∀ u ∈ [Value.slice a n c], u.oneCell' = true := by
  intro u hu
  simp only [List.mem_singleton] at hu
  subst hu
  rfl
/-- lists of lists of the call's own -/
def RowsAt (R : Reg) (B : Nat) (w : World) (v : Value) (xss : List (List Nat)) : Prop :=
  ∃ a c vs, v = .slice a xss.length c ∧ OwnV R B 24 1 w (.slice a xss.length c) xss.length vs ∧ RowsLL R w (fun k => (Value.slice a xss.length c).ownBlock = some k) vs xss
theorem rows_next {R : Reg} {B : Nat} {w w' : World} {a : Option Addr} {n c : Nat} {v' u : Value} {vs : List Value} {xss : List (List Nat)} {X : List Nat} (hn : n = xss.length) (hrw : RowsLL R w (fun k => (Value.slice a n c).ownBlock = some k) vs xss) (hrow : RowOk R w (fun k => (Value.slice a n c).ownBlock = some k) u X)
    (ho : OwnV R B 24 1 w' v' (n + 1) (vs ++ [u])) (hg : w.grownBy w' (Value.slice a n c).ownBlock) (hs : ∀ k, v'.ownBlock = some k → (Value.slice a n c).ownBlock = some k ∨ w.heap.size ≤ k) : RowsAt R B w' v' (xss ++ [X]) := by
  obtain ⟨a8, c8, rfl, _⟩ := ho.open
  have e : (xss ++ [X]).length = n + 1 := by simp [hn]
  have h7 := (hrw.app hrow).re (X' := fun q => (Value.slice a n c).ownBlock = some q ∨ (Value.slice a8 (n + 1) c8).ownBlock = some q) fun q hq hx hx' => by
    rcases hx' with h1 | h1
    · exact hx h1
    · rcases hs q h1 with h2 | h2
      · exact hx h2
      · omega
  have h8 := (h7.kept hg fun q hq => Or.inl hq).re (X' := fun q => (Value.slice a8 (n + 1) c8).ownBlock = some q) fun q _ hx h' => hx (Or.inr h')
  exact ⟨a8, c8, vs ++ [u], by rw [e], by rw [e]; exact ho, by rw [e]; exact h8⟩
theorem from_len {s : List Nat} (d e : Nat) : (fromL s d e).length ≤ s.length + 1 := by
  have h1 := orbitL_length s d
  have h2 := List.length_filter_le (fun x => !decide (x / 2 = e)) (orbitL s d)
  unfold fromL
  omega
theorem rowOk_new {R : Reg} {w5 w6 : World} {B n N c : Nat} {a : Option Addr} {v5 : Value} {xs : List Value} {F : List Nat} (ho : OwnI R w5.heap.size 3 w6 (.slice a N c) (toI F)) (hN : F.length = N) (hO : OwnV R B 24 1 w5 v5 n xs) : RowOk R w6 (fun k => v5.ownBlock = some k) (.slice a N c) F := by
  subst hN
  refine ⟨a, c, rfl, ho.free, fun q hq => ⟨fun hx => ?_, (ho.lt q hq).2⟩⟩
  have h1 := (ho.lt q hq).1
  have h2 := (hO.lt q hx).2
  omega
/-- whose darts they are -/
def RowsIn (n e : Nat) (xss : List (List Nat)) : Prop := ∀ v, v ∈ xss → (∀ x, x ∈ v → x < n ∧ ¬ x / 2 = e) ∧ v.length ≤ n + 1
theorem RowsIn.app {n e : Nat} {xss yss : List (List Nat)} (h : RowsIn n e xss) (k : RowsIn n e yss) : RowsIn n e (xss ++ yss) := fun v hv => (List.mem_append.1 hv).elim (h v) (k v)
theorem rowsIn_from {s : List Nat} (hs : IsPerm s) {d e : Nat} (hd : d < s.length) : RowsIn s.length e [fromL s d e] := fun v hv => by
  rw [List.mem_singleton.1 hv]
  exact ⟨fun x hx => ⟨orbitL_lt hs hd x (mem_from.1 hx).1, (mem_from.1 hx).2⟩, from_len d e⟩
theorem rowsIn_others {s : List Nat} (hs : IsPerm s) {e : Nat} : RowsIn s.length e ((repsTo s e s.length).map fun d => orbitL s d) := fun v hv => by
  obtain ⟨d, hd, rfl⟩ := List.mem_map.1 hv
  exact ⟨fun x hx => ⟨orbitL_lt hs (mem_reps.1 hd).1 x hx, rep_own hs hd x hx⟩, orbitL_length s d⟩
theorem reps_len (s : List Nat) (e n : Nat) : (repsTo s e n).length ≤ n := by
  unfold repsTo
  have := List.length_filter_le (repB s e) (List.range n)
  rwa [List.length_range] at this


set_option maxRecDepth 100000 in
set_option maxHeartbeats 2000000 in
theorem r10cut_any (R : Reg) (w : World) (hI : Inv R w) (v : Value) (s : List Nat) (root lone : Int) (hv : FreeI R w v (toI s)) (hS : IsPerm s) (hn : s.length ≤ 900000) (e : Nat) (he : 2 * e + 2 ≤ s.length) (hr : 0 ≤ root ∧ root < s.length) (hl : 0 ≤ lone ∧ lone ≤ 65536) :
    Calls Tryz.prog 19 #[refV v root lone, .int .i64 (e : Int)] w (RetMap R w (doneL s e) (rootL s e root.toNat) (lone + cutLone s e)) := by
  obtain ⟨a0, cap0, rfl, hv0⟩ := hv.open
  rw [toI_length] at hv hv0 ⊢
  obtain ⟨n, hnn⟩ : ∃ n, s.length = n := ⟨_, rfl⟩
  obtain ⟨A, hA⟩ : ∃ A, ((repsTo s e s.length).map fun d => orbitL s d) = A := ⟨_, rfl⟩
  obtain ⟨F0, hF0⟩ : ∃ F, fromL s (2 * e) e = F := ⟨_, rfl⟩
  obtain ⟨F1, hF1⟩ : ∃ F, fromL s (2 * e + 1) e = F := ⟨_, rfl⟩
  have HOth := Lib.hid (fun w' (hee : Ev R w R w') => others_any R w' hee.inv _ s root lone (hv.ev hee) hS (by omega) e he)
  have HFr0 := Lib.hid (fun w' (hee : Ev R w R w') => r10from_any R w' hee.inv _ s root lone (hv.ev hee) hS (by omega) (2 * e) e (by omega))
  have HFr1 := Lib.hid (fun w' (hee : Ev R w R w') => r10from_any R w' hee.inv _ s root lone (hv.ev hee) hS (by omega) (2 * e + 1) e (by omega))
  have HNm := Lib.hid (fun w' (hee : Ev R w R w') => rnames_any R w' hee.inv _ s (hv.ev hee) hS (by omega))
  have HMd := Lib.hid (fun w' (hee : Ev R w R w') B a c vs xss hO hW (hx : RowsIn s.length e xss) (hN : xss.length ≤ 1000000) => r10made_any R w' hee.inv _ s root lone (hv.ev hee) hS (by omega) (by omega) e he hr hl B a c vs xss hO hW (fun u hu => (hx u hu).1) hN (fun u hu => by have := (hx u hu).2; omega))
  have hAi := rowsIn_others hS (e := e)
  have hAl : A.length ≤ n := by rw [← hA, List.length_map, ← hnn]; exact reps_len s e _
  have hF0i := rowsIn_from hS (d := 2 * e) (e := e) (by omega)
  have hF1i := rowsIn_from hS (d := 2 * e + 1) (e := e) (by omega)
  have hnl := namesL_length s
  have HD := Lib.hid (cutRows_done hS he)
  have HEm := Lib.hid (cutRows_empty hS he)
  have HCr := Lib.hid (show cutRows s e = A ++ ([F0] ++ if nth (namesL s) (2 * e) = nth (namesL s) (2 * e + 1) then [] else [F1]) by unfold cutRows; rw [hA, hF0, hF1])
  obtain ⟨D, hDD⟩ : ∃ D, doneL s e = D := ⟨_, rfl⟩
  obtain ⟨rr, hrr⟩ : ∃ r, rootL s e root.toNat = r := ⟨_, rfl⟩
  obtain ⟨lc, hlc⟩ : ∃ l, lone + cutLone s e = l := ⟨_, rfl⟩
  rw [hrr] at HMd
  rw [hDD] at HD
  rw [hDD, hrr, hlc]
  have HLc := Lib.hid hlc
  clear hDD hrr hlc
  rw [hA] at HOth hAi
  rw [hF0] at HFr0 hF0i
  rw [hF1] at HFr1 hF1i
  rw [hnn] at HD HOth HFr0 HFr1 HNm HMd hAi hF0i hF1i hn he hnl ⊢
  obtain ⟨NA, hNA⟩ : ∃ N, A.length = N := ⟨_, rfl⟩
  obtain ⟨N0, hN0⟩ : ∃ N, F0.length = N := ⟨_, rfl⟩
  obtain ⟨N1, hN1⟩ : ∃ N, F1.length = N := ⟨_, rfl⟩
  rw [hNA] at hAl
  have HNA := Lib.hid hNA
  have HN0 := Lib.hid hN0
  have HN1 := Lib.hid hN1
  have HAi := Lib.hid hAi
  have HF0i := Lib.hid hF0i
  have HF1i := Lib.hid hF1i
  have HNl := Lib.hid hnl
  obtain ⟨E0, hE0⟩ : ∃ x, 2 * e = x := ⟨_, rfl⟩
  obtain ⟨E1, hE1⟩ : ∃ x, E0 + 1 = x := ⟨_, rfl⟩
  have hw2 : IntKind.i64.wrap (2 * (e : Int)) = (E0 : Int) := by rw [show 2 * (e : Int) = (E0 : Int) by omega]; exact IntWalk.i64_in _ (by omega)
  have hw3 : IntKind.i64.wrap ((E0 : Int) + 1) = (E1 : Int) := by rw [show (E0 : Int) + 1 = (E1 : Int) by omega]; exact IntWalk.i64_in _ (by omega)
  rw [hE0] at HFr0 HFr1 HCr
  rw [hE1] at HFr1 HCr
  have hE0n : E0 < n := by omega
  have hE1n : E1 < n := by omega
  have HI := Lib.hid hI
  unfold refV at HOth HFr0 HFr1 HMd
  unfold refV
  have he1 : Ev R w R ((w.alloc (.cells #[.slice a0 n cap0, .int .i64 root, .int .i64 lone] 26)).alloc (.cells #[.slice none 0 0, .int .i64 0, .int .i64 0] 26)) := ((Ev.refl hI).alloc _).alloc _
  have hb1 : ((w.alloc (.cells #[.slice a0 n cap0, .int .i64 root, .int .i64 lone] 26)).alloc (.cells #[.slice none 0 0, .int .i64 0, .int .i64 0] 26)).heap[w.heap.size]? = some (.cells #[.slice a0 n cap0, .int .i64 root, .int .i64 lone] 26 (0, 0)) := by
    rw [Below.heap_alloc _ _ _ (by simp)]
    exact heap_alloc_new w _
  have hb2 : ((w.alloc (.cells #[.slice a0 n cap0, .int .i64 root, .int .i64 lone] 26)).alloc (.cells #[.slice none 0 0, .int .i64 0, .int .i64 0] 26)).heap[w.heap.size + 1]? = some (.cells #[.slice none 0 0, .int .i64 0, .int .i64 0] 26 (0, 0)) := by
    have := heap_alloc_new (w.alloc (.cells #[.slice a0 n cap0, .int .i64 root, .int .i64 lone] 26)) (.cells #[.slice none 0 0, .int .i64 0, .int .i64 0] 26)
    simpa using this
  have hn1 : R w.heap.size = none := hI.none_of_ge (Nat.le_refl _)
  have hn2 : R (w.heap.size + 1) = none := hI.none_of_ge (by omega)
  go_enter Tryz.func19, Tryz.ntmps19
  go_upto_region 1 with fail
  obtain ⟨wb, hwb⟩ : ∃ wb, wb = (w.alloc (.cells #[.slice a0 n cap0, .int .i64 root, .int .i64 lone] 26)).alloc (.cells #[.slice none 0 0, .int .i64 0, .int .i64 0] 26) := ⟨_, rfl⟩
  have hwz : wb.heap.size = w.heap.size + 1 + 1 := by rw [hwb]; simp
  rw [← hwb] at he1 hb1 hb2 ⊢
  have HB1 := Lib.hid (fun w' (h : Ev R wb R w') => h.box3 hb1 hn1)
  have HB2 := Lib.hid (fun w' (h : Ev R wb R w') => h.box3 hb2 hn2)
  have HEb := Lib.hid he1
  have HZb := Lib.hid hwz
  have HEd := Lib.hid ((Ev.refl he1.inv).drew)
  obtain ⟨x0, x1, x2, _⟩ := box_cells (HB1.out _ HEd.out).1
  clear hwb hb1 hb2 hn1 hn2 hI hv hv0 hS he1 hwz hnn hA hF0 hF1 hNA hN0 hN1 hE0 hE1 hAi hF0i hF1i hnl
  go_cut [5] (fun s5 wx => Ev R wb R wx ∧ RowsAt R wb.heap.size wx s5 (A ++ [F0]))
  case first =>
    go_region_law (first
      | (refine step_app_row 71 24 1 24 nilS Tryz.underlying71 islice_info rfl (by decide) (by decide) rfl (.tmp 9) (.tmp 15) rfl (HO5.out.alloc (.cells #[.slice a7 N0 c7] 24)) ?h1 ⟨w6.heap.size, 0, none⟩ 1 1 [.slice a7 N0 c7] rfl ?h2 ?h3 ?h4 ?h5 ?h6 ?h7 ?_; (case h1 => simp [Act.eval]); (case h2 => simp [Act.eval]); (case h3 => exact one_cell _ _); (case h4 => exact one_one _ _ _); (case h5 => omega); (case h6 => have := HEd.out.size; simp at this ⊢; omega); (case h7 => exact fun q hq => HEd.out.inv.none_of_ge (by simp at hq; omega)); intro v8 w8 ho8 hg8 hs8; have HE8 := Lib.hid ((HEd.out.alloc (.cells #[.slice a7 N0 c7] 24)).appV (HO5.out.alloc (.cells #[.slice a7 N0 c7] 24)) (Nat.le_refl _) hg8); have HR8 := Lib.hid (rows_next HNA.out.symm (HR5.out.ev ((Ev.refl HEd.out.inv).alloc (.cells #[.slice a7 N0 c7] 24))) (HRo.out.ev ((Ev.refl HEd.out.inv).alloc (.cells #[.slice a7 N0 c7] 24))) ho8 hg8 hs8); clear ho8 hg8 hs8)
      | (go_simp; go_at_call 58; refine (HOth.out _ (HEb.out.trans HEd.out)).mono ?_; rintro z w5 ⟨a5, c5, vs5, rfl, he5, ho5, hr5⟩; rw [HNA.out] at ho5 hr5 ⊢; have HO5 := Lib.hid (ho5.mono HEd.out.size); have HR5 := Lib.hid hr5; have HEd := Lib.hid (HEd.out.trans he5); clear he5 ho5 hr5; obtain ⟨x0, x1, x2, _⟩ := box_cells (HB1.out _ HEd.out).1)
      | (go_simp; go_at_call 59; refine (HFr0.out _ (HEb.out.trans HEd.out)).mono ?_; rintro z w6 ⟨v6, rfl, he6, ho6⟩; obtain ⟨a7, c7, rfl, _⟩ := ho6.ints.open; rw [toI_length, HN0.out] at ho6 ⊢; have HRo := Lib.hid (rowOk_new ho6 HN0.out HO5.out); have HO5 := Lib.hid (HO5.out.ev he6); have HR5 := Lib.hid (HR5.out.ev he6); have HEd := Lib.hid (HEd.out.trans he6); clear he6 ho6; obtain ⟨x0, x1, x2, _⟩ := box_cells (HB1.out _ HEd.out).1))
    all_goals (go_wp2_with fail; go_meet)
    all_goals exact ⟨HE8.out, HR8.out⟩
  case rest =>
    obtain ⟨hev, a5, c5, vs5, rfl, ho5, hr5⟩ := hcut
    obtain ⟨w3, hw3e⟩ : ∃ w3, w3 = wc := ⟨_, rfl⟩
    subst hw3e
    obtain ⟨NB, hNB⟩ : ∃ N, (A ++ [F0]).length = N := ⟨_, rfl⟩
    have hNBb : NB ≤ n + 1 := by rw [← hNB, List.length_append, HNA.out, List.length_singleton]; omega
    have HRi : Hid (RowsIn n e (A ++ [F0])) := Lib.hid (HAi.out.app HF0i.out)
    obtain ⟨Y, hY⟩ : ∃ Y, A ++ [F0] = Y := ⟨_, rfl⟩
    rw [hNB] at ho5 hr5 ⊢
    rw [hY] at hr5 hNB HRi
    have HYe := Lib.hid hY
    have HNB := Lib.hid hNB
    have HE3 := Lib.hid hev
    have HO5 := Lib.hid ho5
    have HR5 := Lib.hid hr5
    clear hev ho5 hr5 hNB hY x0 x1 x2
    obtain ⟨x0, x1, x2, _⟩ := box_cells (HB1.out _ HE3.out).1
    go_wp2_with fail
    refine (HNm.out _ (HEb.out.trans HE3.out)).mono ?_
    rintro z w4 ⟨v4, rfl, he4, ho4⟩
    obtain ⟨a4, c4, rfl, _⟩ := ho4.ints.open
    rw [HNl.out] at ho4 ⊢
    obtain ⟨g4, rfl, _, _, k0, _⟩ := ho4.headAt HNl.out hE0n
    obtain ⟨_, e1, _, _, k1, _⟩ := ho4.headAt HNl.out hE1n
    cases e1
    have HE4 := Lib.hid (HE3.out.trans he4)
    have HO4 := Lib.hid (HO5.out.ev he4)
    have HR4 := Lib.hid (HR5.out.ev he4)
    clear he4 ho4 HO5 HR5 HE3 x0 x1 x2
    obtain ⟨x0, x1, x2, _⟩ := box_cells (HB1.out _ HE4.out).1
    obtain ⟨n0, hn0⟩ : ∃ x, nth (namesL s) E0 = x := ⟨_, rfl⟩
    obtain ⟨n1, hn1⟩ : ∃ x, nth (namesL s) E1 = x := ⟨_, rfl⟩
    rw [hn0] at k0 HCr
    rw [hn1] at k1 HCr
    clear hn0 hn1
    go_wp2_with fail
    by_cases hnn : n0 = n1
    · have hb : (n0 != n1) = false := by simp [hnn]
      have hC := HCr.out
      rw [if_pos hnn, List.append_nil, HYe.out] at hC
      have HC := Lib.hid hC
      clear hC hnn
      go_quiet (fail)
      obtain ⟨w5, hw5⟩ : ∃ x, x = w4.drewN nq := ⟨_, rfl⟩
      rw [← hw5]
      have HE5 : Hid (Ev R wb R w5) := Lib.hid (by rw [hw5]; exact HE4.out.drewN nq)
      have hq5 : Ev R w4 R w5 := by rw [hw5]; exact (Ev.refl HE4.out.inv).drewN nq
      have HO5 := Lib.hid (HO4.out.ev hq5)
      have HR5 := Lib.hid (HR4.out.ev hq5)
      clear hw5 hq5 HO4 HR4 HE4 x0 x1 x2 k0 k1 hb
      obtain ⟨x0, x1, x2, _⟩ := box_cells (HB1.out _ HE5.out).1
      have hM := HMd.out w5 (HEb.out.trans HE5.out) _ _ _ _ Y (by rw [HNB.out]; exact HO5.out) (by rw [HNB.out]; exact HR5.out) HRi.out (by rw [HNB.out]; omega)
      rw [HNB.out, ← HC.out, HD.out, HEm.out, HLc.out] at hM
      have HM := Lib.hid hM
      clear hM
      go_wp2_with fail
      refine HM.out.mono ?_
      rintro z w9 ⟨a9, c9, rfl, he9, ho9⟩
      obtain ⟨LD, hLD⟩ : ∃ L, D.length = L := ⟨_, rfl⟩
      rw [hLD] at ho9 ⊢
      have HO9 := Lib.hid ho9
      have HE9 := Lib.hid (HE5.out.trans he9)
      have HLD := Lib.hid hLD
      have hz9 := HE5.out.size
      clear ho9 he9 hLD
      unfold refV
      obtain ⟨y0, y1, y2, yz⟩ := box_cells (HB2.out _ HE9.out).1
      go_wp2_with fail
      have hb3 := set3 (x := .slice a9 LD c9) (y := .int .i64 rr) (z := .int .i64 lc) (HB2.out _ HE9.out).1
      obtain ⟨u0, u1, u2, _⟩ := box_cells hb3
      have hn2 := (HB2.out _ HE9.out).2
      refine bodyPost_ret (v := refV (.slice a9 LD c9) rr lc) ?_ rfl ⟨a9, c9, by rw [HLD.out], ?_, ?_⟩
      · simp [results, Tryz.results19, go_sem, u0, u1, u2, refV]
      · exact (((HEb.out.trans HE9.out).setCell (by simp) hn2 _).setCell (by simp) hn2 _).setCell (by simp) hn2 _
      · have hne : ∀ (o : Nat), (Value.slice a9 LD c9).ownBlock ≠ some (⟨w.heap.size + 1, o, none⟩ : Addr).block := fun o e' => by
          have h1 := (HO9.out.lt _ e').1
          have h2 := HZb.out
          have h3 : (⟨w.heap.size + 1, o, none⟩ : Addr).block = w.heap.size + 1 := rfl
          omega
        rw [HLD.out]
        exact (((HO9.out.mono (by have := HZb.out; omega)).setCell (hne 0) _).setCell (hne 1) _).setCell (hne 2) _
    · have hb : (n0 != n1) = true := by simp [hnn]
      have hC := HCr.out
      rw [if_neg hnn] at hC
      have HC := Lib.hid (show cutRows s e = Y ++ [F1] by rw [hC, ← HYe.out]; simp)
      clear hC hnn
      go_quiet (fail)
      obtain ⟨w5, hw5⟩ : ∃ x, x = w4.drewN nq := ⟨_, rfl⟩
      rw [← hw5]
      have HE5 : Hid (Ev R wb R w5) := Lib.hid (by rw [hw5]; exact HE4.out.drewN nq)
      have hq5 : Ev R w4 R w5 := by rw [hw5]; exact (Ev.refl HE4.out.inv).drewN nq
      have HO5 := Lib.hid (HO4.out.ev hq5)
      have HR5 := Lib.hid (HR4.out.ev hq5)
      clear hw5 hq5 HO4 HR4 HE4 x0 x1 x2 k0 k1 hb
      obtain ⟨x0, x1, x2, _⟩ := box_cells (HB1.out _ HE5.out).1
      go_wp2_with fail
      refine (HFr1.out _ (HEb.out.trans HE5.out)).mono ?_
      rintro z w6 ⟨v6, rfl, he6, ho6⟩
      obtain ⟨a7, c7, rfl, _⟩ := ho6.ints.open
      rw [toI_length, HN1.out] at ho6 ⊢
      have HRo := Lib.hid (rowOk_new ho6 HN1.out HO5.out)
      have HO6 := Lib.hid (HO5.out.ev he6)
      have HR6 := Lib.hid (HR5.out.ev he6)
      have HE6 := Lib.hid (HE5.out.trans he6)
      clear he6 ho6 HO5 HR5 HE5 x0 x1 x2
      go_wp2_with (at_builtin; refine wpList_app_row 71 24 1 24 nilS Tryz.underlying71 islice_info rfl (by decide) (by decide) rfl _ _ rfl (HO6.out.alloc (.cells #[.slice a7 N1 c7] 24)) rfl ⟨w6.heap.size, 0, none⟩ 1 1 [.slice a7 N1 c7] rfl ?h2 ?h3 ?h4 ?h5 ?h6 ?h7 ?_)
      case h2 => first | rfl | simp
      case h3 => exact one_cell _ _
      case h4 => exact one_one _ _ _
      case h5 => omega
      case h6 => have := HE6.out.size; simp at this ⊢; omega
      case h7 => exact fun q hq => HE6.out.inv.none_of_ge (by simp at hq; omega)
      intro v8 w8 ho8 hg8 hs8
      have HE8 := Lib.hid ((HE6.out.alloc (.cells #[.slice a7 N1 c7] 24)).appV (HO6.out.alloc (.cells #[.slice a7 N1 c7] 24)) (Nat.le_refl _) hg8)
      have hr8 := rows_next HNB.out.symm (HR6.out.ev ((Ev.refl HE6.out.inv).alloc (.cells #[.slice a7 N1 c7] 24))) (HRo.out.ev ((Ev.refl HE6.out.inv).alloc (.cells #[.slice a7 N1 c7] 24))) ho8 hg8 (fun k hk => (hs8 k hk).imp id fun h => by simpa using h)
      obtain ⟨a8, c8, vs8, rfl, ho8, hr8⟩ := hr8
      have HRi2 : Hid (RowsIn n e (Y ++ [F1])) := Lib.hid (HRi.out.app HF1i.out)
      obtain ⟨Z, hZ⟩ : ∃ Z, Y ++ [F1] = Z := ⟨_, rfl⟩
      obtain ⟨NC, hNC⟩ : ∃ N, (Y ++ [F1]).length = N := ⟨_, rfl⟩
      have hNCb : NC ≤ n + 2 := by rw [← hNC, List.length_append, HNB.out, List.length_singleton]; omega
      rw [hNC] at ho8 hr8 ⊢
      have hC := HC.out
      rw [hZ] at hr8 hNC hC HRi2
      have hM := HMd.out w8 (HEb.out.trans HE8.out) _ _ _ _ Z (by rw [hNC]; exact ho8) (by rw [hNC]; exact hr8) HRi2.out (by rw [hNC]; omega)
      rw [hNC, ← hC, HD.out, HEm.out, HLc.out] at hM
      have HM := Lib.hid hM
      clear hM hC hZ hNC hr8 ho8 hg8 hs8 HO6 HR6 HRo HE6
      obtain ⟨x0, x1, x2, _⟩ := box_cells (HB1.out _ HE8.out).1
      go_wp2_with fail
      refine HM.out.mono ?_
      rintro z w9 ⟨a9, c9, rfl, he9, ho9⟩
      obtain ⟨LD, hLD⟩ : ∃ L, D.length = L := ⟨_, rfl⟩
      rw [hLD] at ho9 ⊢
      have HO9 := Lib.hid ho9
      have HE9 := Lib.hid (HE8.out.trans he9)
      have HLD := Lib.hid hLD
      have hz9 := HE8.out.size
      clear ho9 he9 hLD
      unfold refV
      obtain ⟨y0, y1, y2, yz⟩ := box_cells (HB2.out _ HE9.out).1
      go_wp2_with fail
      have hb3 := set3 (x := .slice a9 LD c9) (y := .int .i64 rr) (z := .int .i64 lc) (HB2.out _ HE9.out).1
      obtain ⟨u0, u1, u2, _⟩ := box_cells hb3
      have hn2 := (HB2.out _ HE9.out).2
      refine bodyPost_ret (v := refV (.slice a9 LD c9) rr lc) ?_ rfl ⟨a9, c9, by rw [HLD.out], ?_, ?_⟩
      · simp [results, Tryz.results19, go_sem, u0, u1, u2, refV]
      · exact (((HEb.out.trans HE9.out).setCell (by simp) hn2 _).setCell (by simp) hn2 _).setCell (by simp) hn2 _
      · have hne : ∀ (o : Nat), (Value.slice a9 LD c9).ownBlock ≠ some (⟨w.heap.size + 1, o, none⟩ : Addr).block := fun o e' => by
          have h1 := (HO9.out.lt _ e').1
          have h2 := HZb.out
          have h3 : (⟨w.heap.size + 1, o, none⟩ : Addr).block = w.heap.size + 1 := rfl
          omega
        rw [HLD.out]
        exact (((HO9.out.mono (by have := HZb.out; omega)).setCell (hne 0) _).setCell (hne 1) _).setCell (hne 2) _

end Go.Proofs.YtcnmbenfnpjkjaaGreat

namespace Go.Proofs.YtcnmbenfnpjkjaaGreat
open Go.RowKit
set_option linter.unusedVariables false

def aftF (t d x : Nat) : List Nat := if x = t then [x, d] else [x]
def witF (d x : Nat) : List Nat := if x = d then [] else [x]
def outL (f : Nat → List Nat) (xss : List (List Nat)) : List (List Nat) := xss.map fun v => v.flatMap f
end Go.Proofs.YtcnmbenfnpjkjaaGreat

namespace Go.Proofs.YtcnmbenfnpjkjaaGreat
open Go.RowKit
set_option linter.unusedVariables false

/-- is there a dart below k, of which the two vertices are d's? -/
def fndB (s : List Nat) (d : Nat) : Nat → Bool
  | 0 => false
  | x + 1 => fndB s d x || (nth (namesL s) x == nth (namesL s) d && nth (namesL s) (x ^^^ 1) == nth (namesL s) (d + 1))
theorem fndB_iff {s : List Nat} {d : Nat} : ∀ {k : Nat}, fndB s d k = true ↔ ∃ x, x < k ∧ nth (namesL s) x = nth (namesL s) d ∧ nth (namesL s) (x ^^^ 1) = nth (namesL s) (d + 1)
  | 0 => by simp [fndB]
  | k + 1 => by
    unfold fndB
    rw [Bool.or_eq_true, fndB_iff, Bool.and_eq_true, beq_iff_eq, beq_iff_eq]
    constructor
    · rintro (⟨x, h1, h2⟩ | h)
      · exact ⟨x, by omega, h2⟩
      · exact ⟨k, by omega, h⟩
    · rintro ⟨x, h1, h2⟩
      by_cases e : x = k
      · subst e; exact Or.inr h2
      · exact Or.inl ⟨x, by omega, h2⟩
theorem fndB_dbl {s : List Nat} {e : Nat} (hl : ¬ loopB s e = true) : fndB s (2 * e) (2 * e) = dblB s e := by
  rw [Bool.eq_iff_iff, fndB_iff]
  unfold dblB
  simp only [Bool.and_eq_true, List.any_eq_true, List.mem_range, Bool.not_eq_true']
  constructor
  · rintro ⟨x, hx, h1, h2⟩
    refine ⟨by simpa using hl, x / 2, by omega, ?_⟩
    unfold pairB
    simp only [Bool.or_eq_true, Bool.and_eq_true, beq_iff_eq]
    rw [xor_one] at h2
    by_cases hx2 : x % 2 = 0
    · rw [if_pos hx2] at h2
      rw [show 2 * (x / 2) = x by omega]
      exact Or.inl ⟨h1, h2⟩
    · rw [if_neg hx2] at h2
      rw [show 2 * (x / 2) + 1 = x by omega, show 2 * (x / 2) = x - 1 by omega]
      exact Or.inr ⟨h2, h1⟩
  · rintro ⟨_, f, hf, hp⟩
    unfold pairB at hp
    simp only [Bool.or_eq_true, Bool.and_eq_true, beq_iff_eq] at hp
    rcases hp with ⟨h1, h2⟩ | ⟨h1, h2⟩
    · exact ⟨2 * f, by omega, h1, by rw [xor_even]; exact h2⟩
    · exact ⟨2 * f + 1, by omega, h2, by rw [xor_odd]; exact h1⟩

set_option maxRecDepth 100000 in
set_option maxHeartbeats 4000000 in
theorem r8doubles_any (R : Reg) (w : World) (hI : Inv R w) (v : Value) (s : List Nat) (root lone : Int) (hv : FreeI R w v (toI s)) (hs : IsPerm s) (hn : s.length ≤ 131073) (he2 : s.length % 2 = 0) :
    Calls Tryz.prog 65 #[refV v root lone] w (RetE R w (.int .i64 (dblsL s : Nat))) := by
  obtain ⟨a0, cap0, rfl, hv⟩ := hv.open
  rw [toI_length] at hv ⊢
  have he0 : Ev R w R (w.alloc (.cells #[.slice a0 s.length cap0, .int .i64 root, .int .i64 lone] 26)) := (Ev.refl hI).alloc _
  have HN := Lib.hid (rnames_any R _ he0.inv _ s (hv.ev he0) hs (by omega))
  obtain ⟨n, hl⟩ : ∃ n, s.length = n := ⟨_, rfl⟩
  obtain ⟨E, hE⟩ : ∃ E, n / 2 = E := ⟨_, rfl⟩
  have hEn : 2 * E = n := by omega
  have HNl : Hid ((namesL s).length = n) := Lib.hid (by rw [namesL_length, hl])
  have HA : Hid (dblsL s = dblsTo s E) := Lib.hid (by unfold dblsL; rw [hl, hE])
  have HXL := Lib.hid (fun x (hx : x < n) => xor_one_lt (n := n) (by omega) hx)
  have HMT := Lib.hid rmate_any
  rw [hl] at hn HN he0 ⊢
  have HE0 := Lib.hid he0
  have HLb := Lib.hid (fun e => dblsTo_le s e)
  unfold refV
  clear hI hv hs hE he0 hl he2
  subst hEn
  go_enter Tryz.func65, Tryz.ntmps65
  go_wp2_with fail
  refine HN.out.mono ?_
  rintro e w1 ⟨v, rfl, he, ho⟩
  obtain ⟨a, c, rfl, hf⟩ := ho.free.open
  rw [HNl.out] at hf ⊢
  have HE1 := Lib.hid he
  have HF := Lib.hid hf
  clear he ho hf
  go_wp2_with fail
  go_loopg [3, 5] E (fun gg v3 v5 wr => ∃ e : Nat, e ≤ E ∧ E - e ≤ gg ∧ v3 = .int .i64 ((dblsTo s e : Nat) : Int) ∧ v5 = .int .i64 (2 * (e : Int)) ∧ Ev R w1 R wr)
  case atStart => exact ⟨0, by omega, by omega, rfl, rfl, Ev.refl HE1.out.inv⟩
  case round =>
    obtain ⟨e, he, hg, rfl, rfl, hev⟩ := hrel
    have HE := Lib.hid hev
    have hb := HLb.out e
    have HSu := Lib.hid (dblsTo_succ s e)
    obtain ⟨c, hc⟩ : ∃ c, dblsTo s e = c := ⟨_, rfl⟩
    rw [hc] at hb HSu ⊢
    have HC := Lib.hid hc
    clear hev hc
    by_cases heE : e < E
    · have hlb : loopB s e = (nth (namesL s) (2 * e) == nth (namesL s) (2 * e + 1)) := rfl
      have HFd := Lib.hid (fun (h : ¬ loopB s e = true) => fndB_dbl h)
      have HDn : Hid (loopB s e = true → ¬ dblB s e = true) := Lib.hid (fun h => by unfold dblB; rw [h]; simp)
      obtain ⟨x, hx⟩ : ∃ x, nth (namesL s) (2 * e) = x := ⟨_, rfl⟩
      obtain ⟨y, hy⟩ : ∃ x, nth (namesL s) (2 * e + 1) = x := ⟨_, rfl⟩
      rw [hx, hy] at hlb
      obtain ⟨d, hd⟩ : ∃ d, 2 * e = d := ⟨_, rfl⟩
      have hdi : 2 * (e : Int) = (d : Int) := by omega
      rw [hd] at hx hy HFd
      rw [hdi]
      have hd2 : d + 1 < 2 * E := by omega
      have HLB := Lib.hid hlb
      have HDI := Lib.hid hdi
      have HX := Lib.hid hx
      have HY := Lib.hid hy
      have HDD := Lib.hid hd
      clear hx hy hlb hdi hd
      go_wp2_with fail
      go_loopg [6, 7] d (fun gg v6 v7 wx => ∃ (k : Nat) (b : Bool), k ≤ d ∧ d - k ≤ gg ∧ v6 = .bool b ∧ b = fndB s d k ∧ v7 = .int .i64 (k : Int) ∧ Ev R w1 R wx)
      case atStart => exact ⟨0, false, by omega, by omega, rfl, rfl, rfl, HE.out⟩
      case round =>
        obtain ⟨k, b, hk, hg2, rfl, hb2, rfl, he⟩ := hrel
        have HEk := Lib.hid he
        have HB := Lib.hid hb2
        clear he hb2
        by_cases hkd : k < d
        · have hsucc : fndB s d (k + 1) = (fndB s d k || (nth (namesL s) k == nth (namesL s) d && nth (namesL s) (k ^^^ 1) == nth (namesL s) (d + 1))) := rfl
          have hxl := HXL.out k (by omega)
          obtain ⟨k1, hk1⟩ : ∃ j, k ^^^ 1 = j := ⟨_, rfl⟩
          have HMq : Hid (∀ w' : World, Calls Tryz.prog 57 #[.int .i64 (k : Int)] w' fun e w1 => e = .returned (.int .i64 (k1 : Int)) ∧ w1 = w') := Lib.hid (fun w' => (HMT.out w' k (by omega)).mono (by rintro e w1 ⟨rfl, rfl⟩; exact ⟨by rw [hk1], rfl⟩))
          rw [hk1] at hsucc hxl
          obtain ⟨_, _, e1, c1⟩ := (HF.out.ev HEk.out).1.cell (i := k) (by rw [HNl.out]; omega)
          cases e1
          obtain ⟨_, _, e1, c2⟩ := (HF.out.ev HEk.out).1.cell (i := d) (by rw [HNl.out]; omega)
          cases e1
          obtain ⟨_, _, e1, c3⟩ := (HF.out.ev HEk.out).1.cell (i := k1) (by rw [HNl.out]; omega)
          cases e1
          obtain ⟨_, _, e1, c4⟩ := (HF.out.ev HEk.out).1.cell (i := d + 1) (by rw [HNl.out]; omega)
          cases e1
          rw [HX.out] at c2 hsucc
          rw [HY.out] at c4 hsucc
          obtain ⟨u, hu⟩ : ∃ u, nth (namesL s) k = u := ⟨_, rfl⟩
          obtain ⟨z, hz⟩ : ∃ u, nth (namesL s) k1 = u := ⟨_, rfl⟩
          rw [hu] at c1 hsucc
          rw [hz] at c3 hsucc
          rw [← HB.out] at hsucc
          have HSc := Lib.hid hsucc
          clear hsucc hk1 hu hz
          cases b with
          | true =>
            go_wp2_with fail
            go_quiet (fail)
            go_wp2_with fail
            go_roundg (d - (k + 1))
            case measure => omega
            case rel => exact ⟨k + 1, true, by omega, by omega, rfl, by rw [HSc.out]; rfl, by go_num, HEk.out.drewN _⟩
          | false =>
            by_cases hux : u = x
            · have g1 : (u == x) = true := by rw [beq_iff_eq]; exact hux
              by_cases hzy : z = y
              · have g2 : (z == y) = true := by rw [beq_iff_eq]; exact hzy
                have HSt : Hid (fndB s d (k + 1) = true) := Lib.hid (by rw [HSc.out, g1, g2]; rfl)
                clear hux hzy HSc
                go_wp2_with fail
                go_quiet ((go_at_call 57; exact Calls.quiet_of_same (HMq.out _)))
                go_wp2_with fail
                go_roundg (d - (k + 1))
                case measure => omega
                case rel => exact ⟨k + 1, true, by omega, by omega, rfl, HSt.out.symm, by go_num, HEk.out.drewN _⟩
              · have g2 : (z == y) = false := by rw [beq_eq_false_iff_ne]; exact hzy
                have HSt : Hid (fndB s d (k + 1) = false) := Lib.hid (by rw [HSc.out, g1, g2]; rfl)
                clear hux hzy HSc
                go_wp2_with fail
                go_quiet ((go_at_call 57; exact Calls.quiet_of_same (HMq.out _)))
                go_wp2_with fail
                go_roundg (d - (k + 1))
                case measure => omega
                case rel => exact ⟨k + 1, false, by omega, by omega, rfl, HSt.out.symm, by go_num, HEk.out.drewN _⟩
            · have g1 : (u == x) = false := by rw [beq_eq_false_iff_ne]; exact hux
              have HSt : Hid (fndB s d (k + 1) = false) := Lib.hid (by rw [HSc.out, g1]; rfl)
              clear hux HSc
              go_wp2_with fail
              go_quiet ((go_at_call 57; exact Calls.quiet_of_same (HMq.out _)))
              go_wp2_with fail
              go_roundg (d - (k + 1))
              case measure => omega
              case rel => exact ⟨k + 1, false, by omega, by omega, rfl, HSt.out.symm, by go_num, HEk.out.drewN _⟩
        · obtain rfl : k = d := by omega
          obtain ⟨_, _, e1, c2⟩ := (HF.out.ev HEk.out).1.cell (i := k) (by rw [HNl.out]; omega)
          cases e1
          obtain ⟨_, _, e1, c4⟩ := (HF.out.ev HEk.out).1.cell (i := k + 1) (by rw [HNl.out]; omega)
          cases e1
          rw [HX.out] at c2
          rw [HY.out] at c4
          cases b with
          | false =>
            have HS2 : Hid (dblsTo s (e + 1) = c) := Lib.hid (by
              rw [HSu.out, if_neg]; rfl
              intro h
              by_cases hl : loopB s e = true
              · exact HDn.out hl h
              · rw [← HFd.out hl, ← HB.out] at h; cases h)
            go_wp2_with fail
            go_quiet (fail)
            go_wp2_with fail
            go_roundg (E - (e + 1))
            case measure => omega
            case rel => exact ⟨e + 1, by omega, by omega, by rw [HS2.out], by have := HDI.out; congr 1; omega, HEk.out.drewN _⟩
          | true =>
            by_cases hxy : x = y
            · have g1 : (x != y) = false := by rw [bne_eq_false_iff_eq]; exact hxy
              have HS2 : Hid (dblsTo s (e + 1) = c) := Lib.hid (by
                rw [HSu.out, if_neg (HDn.out (by rw [HLB.out, beq_iff_eq]; exact hxy))]; rfl)
              clear hxy
              go_wp2_with fail
              go_quiet (fail)
              go_wp2_with fail
              go_roundg (E - (e + 1))
              case measure => omega
              case rel => exact ⟨e + 1, by omega, by omega, by rw [HS2.out], by have := HDI.out; congr 1; omega, HEk.out.drewN _⟩
            · have g1 : (x != y) = true := by rw [bne_iff_ne]; exact hxy
              have HS2 : Hid (dblsTo s (e + 1) = c + 1) := Lib.hid (by
                rw [HSu.out, if_pos (by rw [← HFd.out (by rw [HLB.out, beq_iff_eq]; exact hxy), ← HB.out])])
              clear hxy
              go_wp2_with fail
              go_quiet (fail)
              go_wp2_with fail
              go_roundg (E - (e + 1))
              case measure => omega
              case rel => exact ⟨e + 1, by omega, by omega, by rw [HS2.out]; go_num, by have := HDI.out; congr 1; omega, HEk.out.drewN _⟩
    · obtain rfl : e = E := by omega
      go_wp2_with fail
      go_ret
      exact ⟨ret_int (by rw [HA.out, HC.out]), HE0.out.trans (HE1.out.trans HE.out)⟩

end Go.Proofs.YtcnmbenfnpjkjaaGreat

namespace Go.Proofs.YtcnmbenfnpjkjaaGreat
open Go.RowKit
set_option linter.unusedVariables false

theorem orbit_three {t : List Nat} (ht : IsPerm t) {d : Nat} (hd : d < t.length) : (orbitL t d).length = 3 ↔ at' t (at' t (at' t d)) = d ∧ at' t d ≠ d := by
  unfold orbitL
  have hr := ht.reach hd
  by_cases h1 : at' t d = d
  · rw [h1, orbitGo_end]
    simp
  · obtain ⟨f1, e1, r1⟩ := hr.next h1
    rw [e1, orbitGo_next h1]
    by_cases h2 : at' t (at' t d) = d
    · rw [h2, orbitGo_end]
      simp [h1]
    · obtain ⟨f2, e2, r2⟩ := r1.next h2
      rw [e2, orbitGo_next h2]
      by_cases h3 : at' t (at' t (at' t d)) = d
      · rw [h3, orbitGo_end]
        simp [h1]
      · obtain ⟨f3, e3, r3⟩ := r2.next h3
        rw [e3, orbitGo_next h3]
        simp [h1, h3]

theorem triTo_orbit {s : List Nat} (hs : IsPerm s) (he : s.length % 2 = 0) {d : Nat} (hd : d < s.length) : triTo s (d + 1) = (triTo s d && decide ((orbitL (phiL s) d).length = 3)) := by
  have h := orbit_three (phiL_perm hs he) (d := d) (by rw [phiL_length]; exact hd)
  show (triTo s d && (at' (phiL s) (at' (phiL s) (at' (phiL s) d)) == d && !(at' (phiL s) d == d))) = _
  have e : (at' (phiL s) (at' (phiL s) (at' (phiL s) d)) == d && !(at' (phiL s) d == d)) = decide ((orbitL (phiL s) d).length = 3) := by
    rw [Bool.eq_iff_iff, Bool.and_eq_true, beq_iff_eq, decide_eq_true_eq, h]
    simp
  rw [e]

theorem simpB_sum (s : List Nat) : simpB s = decide (loopsL s + dblsL s = 0) := by
  unfold simpB
  rw [Bool.eq_iff_iff, decide_eq_true_eq, decide_eq_true_eq]
  omega

set_option maxRecDepth 100000 in
set_option maxHeartbeats 4000000 in
theorem r8tri_any (R : Reg) (w : World) (hI : Inv R w) (v : Value) (s : List Nat) (root : Int) (lone : Nat) (hv : FreeI R w v (toI s)) (hs : IsPerm s) (hn : s.length ≤ 131073) (he2 : s.length % 2 = 0) (hlone : lone ≤ 65536) :
    Calls Tryz.prog 21 #[refV v root lone] w (RetE R w (.bool (triB s lone))) := by
  obtain ⟨a0, cap0, rfl, hv⟩ := hv.open
  rw [toI_length] at hv ⊢
  have he0 : Ev R w R (w.alloc (.cells #[.slice a0 s.length cap0, .int .i64 root, .int .i64 lone] 26)) := (Ev.refl hI).alloc _
  obtain ⟨w0, hw0⟩ : ∃ w0, w0 = w.alloc (.cells #[.slice a0 s.length cap0, .int .i64 root, .int .i64 lone] 26) := ⟨_, rfl⟩
  have hsz0 : w0.heap.size = w.heap.size + 1 := by rw [hw0]; simp
  have hcells : ∀ w', Ev R w0 R w' → w'.cell? ⟨w.heap.size, 0, none⟩ = some (.slice a0 s.length cap0) ∧ w'.cell? ⟨w.heap.size, 1, none⟩ = some (.int .i64 root) ∧ w'.cell? ⟨w.heap.size, 2, none⟩ = some (.int .i64 lone) := fun w' h => by
    refine ⟨?_, ?_, ?_⟩ <;> (rw [h.cell (by omega) (hI.none_of_ge (Nat.le_refl _)), hw0]; simp)
  have HCL := Lib.hid hcells
  rw [← hw0] at he0
  obtain ⟨V, hV⟩ : ∃ V : Nat, (sizesL s).length + lone = V := ⟨_, rfl⟩
  obtain ⟨C, hC⟩ : ∃ C : Nat, partsN s + lone = C := ⟨_, rfl⟩
  obtain ⟨G, hG⟩ : ∃ G, genusL s = G := ⟨_, rfl⟩
  obtain ⟨l, hl⟩ : ∃ l, loopsL s = l := ⟨_, rfl⟩
  obtain ⟨d2, hd2⟩ : ∃ l, dblsL s = l := ⟨_, rfl⟩
  have hlb := loopsTo_le s (s.length / 2)
  have hdb := dblsTo_le s (s.length / 2)
  rw [show loopsTo s (s.length / 2) = loopsL s from rfl, hl] at hlb
  rw [show dblsTo s (s.length / 2) = dblsL s from rfl, hd2] at hdb
  have K1 : Hid (∀ w', Ev R w0 R w' → Calls Tryz.prog 25 #[refV (.slice a0 s.length cap0) root lone] w' (RetE R w' (.int .i64 (V : Int)))) := Lib.hid (fun w' he => by
    have := rvertices_any R w' he.inv _ s root lone (hv.ev (he0.trans he)) hs (by omega) (by omega) (by omega)
    rwa [show (((sizesL s).length : Int) + (lone : Int)) = (V : Int) by omega] at this)
  have K2 : Hid (∀ w', Ev R w0 R w' → Calls Tryz.prog 62 #[refV (.slice a0 s.length cap0) root lone] w' (fun e w2 => ∃ a c, e = .returned (.slice a C c) ∧ Ev R w' R w2)) := Lib.hid (fun w' he =>
    (r8parts_any R w' he.inv _ s root lone (hv.ev (he0.trans he)) hs hn he2 hlone).mono (by
      rintro e w2 ⟨v, rfl, he3, a, c, rfl, _⟩
      rw [hC]
      exact ⟨a, c, rfl, he3⟩))
  have K3 : Hid (∀ w', Ev R w0 R w' → Calls Tryz.prog 63 #[refV (.slice a0 s.length cap0) root lone] w' (RetE R w' (.int .i64 G))) := Lib.hid (fun w' he => by
    have := r8genus_any R w' he.inv _ s root lone (hv.ev (he0.trans he)) hs hn he2 hlone
    rwa [hG] at this)
  have K4 : Hid (∀ w', Ev R w0 R w' → Calls Tryz.prog 64 #[refV (.slice a0 s.length cap0) root lone] w' (RetE R w' (.int .i64 (l : Int)))) := Lib.hid (fun w' he => by
    have := r8loops_any R w' he.inv _ s root lone (hv.ev (he0.trans he)) hs hn he2
    rwa [hl] at this)
  have K5 : Hid (∀ w', Ev R w0 R w' → Calls Tryz.prog 65 #[refV (.slice a0 s.length cap0) root lone] w' (RetE R w' (.int .i64 (d2 : Int)))) := Lib.hid (fun w' he => by
    have := r8doubles_any R w' he.inv _ s root lone (hv.ev (he0.trans he)) hs hn he2
    rwa [hd2] at this)
  have K6 := Lib.hid (fun w' (he : Ev R w0 R w') => rphi_any R w' he.inv _ s root lone (hv.ev (he0.trans he)) (by omega) he2)
  have K7 := Lib.hid (fun w' (he : Ev R w0 R w') v (hv : FreeI R w' v (toI (phiL s))) d (hd : d < s.length) => rorbit_any R w' he.inv v (phiL s) hv (phiL_perm hs he2) (by rw [phiL_length]; omega) d (by rw [phiL_length]; exact hd))
  have HTO := Lib.hid (fun d (hd : d < s.length) => triTo_orbit hs he2 hd)
  have HB : Hid (triB s lone = (decide (3 ≤ V) && (decide (C = 1) && ((G == 0) && (decide (l + d2 = 0) && triTo s s.length))))) := Lib.hid (by unfold triB; rw [simpB_sum, hV, hC, hG, hl, hd2])
  have HE0 := Lib.hid he0
  obtain ⟨n, hnn⟩ : ∃ n, s.length = n := ⟨_, rfl⟩
  have HPL : Hid ((toI (phiL s)).length = n) := Lib.hid (by rw [toI_length, phiL_length, hnn])
  rw [hnn] at hn hlb hdb HCL K1 K2 K3 K4 K5 K6 K7 HB HTO hw0 ⊢
  unfold refV at K1 K2 K3 K4 K5 K6 ⊢
  have hwr : IntKind.i64.wrap ((l : Int) + (d2 : Int)) = (l : Int) + (d2 : Int) := IntWalk.i64_in _ (by omega)
  have HW := Lib.hid hwr
  have HEd := Lib.hid ((Ev.refl he0.inv).drew)
  have HI0 := Lib.hid (Ev.refl he0.inv)
  clear hI hv hs he2 he0 hcells hV hC hG hl hd2 hnn hlb hdb hwr
  by_cases h1 : V < 3
  · have g1 : decide ((V : Int) < 3) = true := by simp; omega
    have HBf : Hid (triB s lone = false) := Lib.hid (by rw [HB.out, decide_eq_false (by omega)]; rfl)
    clear h1
    obtain ⟨x0, x1, x2⟩ := HCL.out _ HEd.out
    go_enter Tryz.func21, Tryz.ntmps21
    go_wp2_with fail
    rw [← hw0]
    clear hw0
    go_region_with (first | (go_at_call 25; refine (K1.out _ HEd.out).mono ?_; rintro e w' ⟨rfl, he⟩; have HEd := Lib.hid (HEd.out.trans he); clear he; obtain ⟨x0, x1, x2⟩ := HCL.out _ HEd.out))
    all_goals go_wp2_with fail
    all_goals go_ret
    all_goals exact ⟨ret_bool HBf.out.symm, HE0.out.trans HEd.out⟩
  · have g1 : decide ((V : Int) < 3) = false := by simp; omega
    by_cases h2 : C = 1
    · have g2 : ((C : Int) != 1) = false := by rw [bne_eq_false_iff_eq]; omega
      by_cases h3 : G = 0
      · have g3 : (G != 0) = false := by rw [bne_eq_false_iff_eq]; exact h3
        by_cases h4 : l + d2 = 0
        · have g4 : ((l : Int) + (d2 : Int) != 0) = false := by rw [bne_eq_false_iff_eq]; omega
          have HB2 : Hid (triB s lone = triTo s n) := Lib.hid (by rw [HB.out, decide_eq_true (by omega), decide_eq_true h2, decide_eq_true h4, h3]; rfl)
          clear h1 h2 h3 h4
          have hwr := HW.out
          obtain ⟨x0, x1, x2⟩ := HCL.out _ HEd.out
          go_enter Tryz.func21, Tryz.ntmps21
          go_wp2_with fail
          rw [← hw0]
          clear hw0
          go_cut [26] (fun s26 wx => s26 = .bool false ∧ Ev R w0 R wx)
          case first =>
            go_region_with (first | (go_at_call 25; refine (K1.out _ HEd.out).mono ?_; rintro e w' ⟨rfl, he⟩; have HEd := Lib.hid (HEd.out.trans he); clear he; obtain ⟨x0, x1, x2⟩ := HCL.out _ HEd.out) | (go_at_call 62; refine (K2.out _ HEd.out).mono ?_; rintro e w' ⟨a', c', rfl, he⟩; have HEd := Lib.hid (HEd.out.trans he); clear he; obtain ⟨x0, x1, x2⟩ := HCL.out _ HEd.out) | (go_at_call 63; refine (K3.out _ HEd.out).mono ?_; rintro e w' ⟨rfl, he⟩; have HEd := Lib.hid (HEd.out.trans he); clear he; obtain ⟨x0, x1, x2⟩ := HCL.out _ HEd.out) | (go_at_call 64; refine (K4.out _ HEd.out).mono ?_; rintro e w' ⟨rfl, he⟩; have HEd := Lib.hid (HEd.out.trans he); clear he; obtain ⟨x0, x1, x2⟩ := HCL.out _ HEd.out) | (go_at_call 65; refine (K5.out _ HEd.out).mono ?_; rintro e w' ⟨rfl, he⟩; have HEd := Lib.hid (HEd.out.trans he); clear he; obtain ⟨x0, x1, x2⟩ := HCL.out _ HEd.out))
            all_goals (go_wp2_with fail; go_meet)
            all_goals exact ⟨rfl, HEd.out⟩
          case rest =>
            obtain ⟨rfl, he⟩ := hcut
            have HE1 := Lib.hid he
            clear he x0 x1 x2
            obtain ⟨x0, x1, x2⟩ := HCL.out _ HE1.out
            go_wp2_with fail
            refine (K6.out _ HE1.out).mono ?_
            rintro e w2 ⟨vp, rfl, he2, ho2⟩
            obtain ⟨ap, cp, rfl, hf2⟩ := ho2.free.open
            rw [HPL.out] at hf2 ⊢
            have HE2 := Lib.hid (HE1.out.trans he2)
            have HF2 := Lib.hid hf2
            clear he2 ho2 hf2 x0 x1 x2
            go_wp2_with fail
            go_loopg [31] n (fun g v31 wr => ∃ d : Nat, d ≤ n ∧ n - d ≤ g ∧ v31 = .int .i64 (d : Int) ∧ triTo s d = true ∧ Ev R w2 R wr)
            case atStart => exact ⟨0, by omega, by omega, rfl, rfl, Ev.refl HE2.out.inv⟩
            case round =>
              obtain ⟨d, hd, hg, rfl, ht, he⟩ := hrel
              have HT := Lib.hid ht
              have HE3 := Lib.hid he
              clear ht he
              by_cases hdn : d < n
              · have hts := HTO.out d hdn
                rw [HT.out] at hts
                have HO := Lib.hid (K7.out wr (HE2.out.trans HE3.out) _ (HF2.out.ev HE3.out) d hdn)
                obtain ⟨L, hL⟩ : ∃ L, (orbitL (phiL s) d).length = L := ⟨_, rfl⟩
                rw [hL] at hts
                have HLL : Hid ((toI (orbitL (phiL s) d)).length = L) := Lib.hid (by rw [toI_length, hL])
                have HTS := Lib.hid hts
                clear hts hL
                go_wp2_with fail
                refine HO.out.mono ?_
                rintro e w4 ⟨vo, rfl, he4, ho4⟩
                obtain ⟨ao, co, rfl, _⟩ := ho4.free.open
                rw [HLL.out]
                have HE4 := Lib.hid (HE3.out.trans he4)
                clear he4 ho4
                by_cases hL3 : L = 3
                · have g5 : ((L : Int) != 3) = false := by rw [bne_eq_false_iff_eq]; omega
                  have HT1 : Hid (triTo s (d + 1) = true) := Lib.hid (by rw [HTS.out, decide_eq_true hL3]; rfl)
                  clear hL3
                  go_wp2_with fail
                  go_roundg (n - (d + 1))
                  case measure => omega
                  case rel => exact ⟨d + 1, by omega, by omega, by go_num, HT1.out, HE4.out⟩
                · have g5 : ((L : Int) != 3) = true := by rw [bne_iff_ne]; omega
                  have HBf : Hid (triB s lone = false) := Lib.hid (by
                    rw [HB2.out]
                    cases h' : triTo s n with
                    | false => rfl
                    | true =>
                      have := triTo_le (show d + 1 ≤ n by omega) h'
                      rw [HTS.out, decide_eq_false hL3] at this
                      cases this)
                  clear hL3
                  go_wp2_with fail
                  go_ret
                  exact ⟨ret_bool HBf.out.symm, HE0.out.trans (HE2.out.trans HE4.out)⟩
              · obtain rfl : d = n := by omega
                go_wp2_with fail
                go_ret
                exact ⟨ret_bool (by rw [HB2.out, HT.out]), HE0.out.trans (HE2.out.trans HE3.out)⟩
        · have g4 : ((l : Int) + (d2 : Int) != 0) = true := by rw [bne_iff_ne]; omega
          have HBf : Hid (triB s lone = false) := Lib.hid (by rw [HB.out, decide_eq_false h4]; simp)
          clear h1 h2 h3 h4
          have hwr := HW.out
          obtain ⟨x0, x1, x2⟩ := HCL.out _ HEd.out
          go_enter Tryz.func21, Tryz.ntmps21
          go_wp2_with fail
          rw [← hw0]
          clear hw0
          go_region_with (first | (go_at_call 25; refine (K1.out _ HEd.out).mono ?_; rintro e w' ⟨rfl, he⟩; have HEd := Lib.hid (HEd.out.trans he); clear he; obtain ⟨x0, x1, x2⟩ := HCL.out _ HEd.out) | (go_at_call 62; refine (K2.out _ HEd.out).mono ?_; rintro e w' ⟨a', c', rfl, he⟩; have HEd := Lib.hid (HEd.out.trans he); clear he; obtain ⟨x0, x1, x2⟩ := HCL.out _ HEd.out) | (go_at_call 63; refine (K3.out _ HEd.out).mono ?_; rintro e w' ⟨rfl, he⟩; have HEd := Lib.hid (HEd.out.trans he); clear he; obtain ⟨x0, x1, x2⟩ := HCL.out _ HEd.out) | (go_at_call 64; refine (K4.out _ HEd.out).mono ?_; rintro e w' ⟨rfl, he⟩; have HEd := Lib.hid (HEd.out.trans he); clear he; obtain ⟨x0, x1, x2⟩ := HCL.out _ HEd.out) | (go_at_call 65; refine (K5.out _ HEd.out).mono ?_; rintro e w' ⟨rfl, he⟩; have HEd := Lib.hid (HEd.out.trans he); clear he; obtain ⟨x0, x1, x2⟩ := HCL.out _ HEd.out))
          all_goals go_wp2_with fail
          all_goals go_ret
          all_goals exact ⟨ret_bool HBf.out.symm, HE0.out.trans HEd.out⟩
      · have g3 : (G != 0) = true := by rw [bne_iff_ne]; exact h3
        have HBf : Hid (triB s lone = false) := Lib.hid (by rw [HB.out]; simp [h3])
        clear h1 h2 h3
        obtain ⟨x0, x1, x2⟩ := HCL.out _ HEd.out
        go_enter Tryz.func21, Tryz.ntmps21
        go_wp2_with fail
        rw [← hw0]
        clear hw0
        go_region_with (first | (go_at_call 25; refine (K1.out _ HEd.out).mono ?_; rintro e w' ⟨rfl, he⟩; have HEd := Lib.hid (HEd.out.trans he); clear he; obtain ⟨x0, x1, x2⟩ := HCL.out _ HEd.out) | (go_at_call 62; refine (K2.out _ HEd.out).mono ?_; rintro e w' ⟨a', c', rfl, he⟩; have HEd := Lib.hid (HEd.out.trans he); clear he; obtain ⟨x0, x1, x2⟩ := HCL.out _ HEd.out) | (go_at_call 63; refine (K3.out _ HEd.out).mono ?_; rintro e w' ⟨rfl, he⟩; have HEd := Lib.hid (HEd.out.trans he); clear he; obtain ⟨x0, x1, x2⟩ := HCL.out _ HEd.out))
        all_goals go_wp2_with fail
        all_goals go_ret
        all_goals exact ⟨ret_bool HBf.out.symm, HE0.out.trans HEd.out⟩
    · have g2 : ((C : Int) != 1) = true := by rw [bne_iff_ne]; omega
      have HBf : Hid (triB s lone = false) := Lib.hid (by rw [HB.out, decide_eq_false h2]; simp)
      clear h1 h2
      obtain ⟨x0, x1, x2⟩ := HCL.out _ HEd.out
      go_enter Tryz.func21, Tryz.ntmps21
      go_wp2_with fail
      rw [← hw0]
      clear hw0
      go_region_with (first | (go_at_call 25; refine (K1.out _ HEd.out).mono ?_; rintro e w' ⟨rfl, he⟩; have HEd := Lib.hid (HEd.out.trans he); clear he; obtain ⟨x0, x1, x2⟩ := HCL.out _ HEd.out) | (go_at_call 62; refine (K2.out _ HEd.out).mono ?_; rintro e w' ⟨a', c', rfl, he⟩; have HEd := Lib.hid (HEd.out.trans he); clear he; obtain ⟨x0, x1, x2⟩ := HCL.out _ HEd.out))
      all_goals go_wp2_with fail
      all_goals go_ret
      all_goals exact ⟨ret_bool HBf.out.symm, HE0.out.trans HEd.out⟩

end Go.Proofs.YtcnmbenfnpjkjaaGreat
