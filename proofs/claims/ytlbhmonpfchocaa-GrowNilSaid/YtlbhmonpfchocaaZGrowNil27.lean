/- parquetryref11.Names: the document's canonical names. Conditions: the map's list lies in memory. grow.draft: of, edge, behind, done. Conditions: at most 4000000 darts. grow: Leaf, Chord. Conditions: at most 4000000 darts. -/
import Derived.Test.YtlbhmonpfchocaaZGrowNil26
import Derived.Test.YtlbhmonpfchocaaZGrowNil23
import Derived.Test.YtlbhmonpfchocaaZGrowNil10
import Derived.Deep.RegionHeld3
import Derived.Test.YtlbhmonpfchocaaZGrowNil09
import Derived.Test.YtlbhmonpfchocaaZGrowNil07
import Derived.Test.YtlbhmonpfchocaaZGrowNil13
namespace Go.Proofs.Ytlbhmonpfchocaa
open Go.RowKit Go.Maps
set_option linter.unusedVariables false

/-- a map's box, later on -/
theorem Ev.boxC3 {R R' : Reg} {w0 w' : World} {b : Nat} {x y z : Value} {T : TypeId} (hb : w0.heap[b]? = some (.cells #[x, y, z] T (0, 0))) (hn : R b = none) (h : Ev R w0 R' w') :
    w'.heap[b]? = some (.cells #[x, y, z] T (0, 0)) ∧ R' b = none := ⟨(h.block b (lt_of_block hb) hn).trans hb, h.free b (lt_of_block hb) hn⟩
theorem boxC_cells {w : World} {b : Nat} {x y z : Value} {T : TypeId} (hb : w.heap[b]? = some (.cells #[x, y, z] T (0, 0))) : w.cell? ⟨b, 0, none⟩ = some x ∧ w.cell? ⟨b, 1, none⟩ = some y ∧ w.cell? ⟨b, 2, none⟩ = some z ∧ ∀ o, w.frozen? ⟨b, o, none⟩ = false :=
  ⟨cells_at hb 0, cells_at hb 1, cells_at hb 2, fun o => by simp [World.frozen?, hb]⟩
/-- the names so far, as a map -/
def nmO (F : List Nat) (k : Int) : Option Int := if 0 ≤ k ∧ hasE F k.toNat = true then some ((nmF F k.toNat : Nat) : Int) else none
theorem nmO_nat (F : List Nat) (d : Nat) : nmO F (d : Int) = if hasE F d = true then some ((nmF F d : Nat) : Int) else none := by
  unfold nmO
  rw [Int.toNat_natCast]
  by_cases h : hasE F d = true
  · rw [if_pos ⟨by omega, h⟩, if_pos h]
  · rw [if_neg (fun k => h k.2), if_neg h]
theorem nmO_nil : nmO [] = fun _ => none := by
  funext k
  unfold nmO
  rw [if_neg (fun h => by simp [hasE] at h)]
theorem nmO_add {n : Nat} {F : List Nat} (h : FOk n F) {d : Nat} (hd : d < n) (hno : hasE F d = false) : updF (updF (nmO F) (d : Int) ((2 * F.length : Nat) : Int)) ((d ^^^ 1 : Nat) : Int) ((2 * F.length + 1 : Nat) : Int) = nmO (F ++ [d]) := by
  have hno' : ¬ hasE F d = true := by rw [hno]; simp
  have hadd : fstAdd F d = F ++ [d] := by unfold fstAdd; rw [if_neg hno']
  have hok : FOk n (F ++ [d]) := by rw [← hadd]; exact h.add hd
  have hlen : F.length < (F ++ [d]).length := by simp
  have hhas : ∀ x, hasE (F ++ [d]) x = true ↔ hasE F x = true ∨ d / 2 = x / 2 := fun x => by rw [← hadd]; exact hasE_add
  funext k
  unfold updF
  try dsimp only
  by_cases e1 : k = ((d ^^^ 1 : Nat) : Int)
  · rw [if_pos e1, e1, nmO_nat, if_pos ((hhas _).2 (Or.inr (by rw [xor_one_div])))]
    have := nm_mate hok hlen
    rw [at_app_last] at this
    rw [this]
  · rw [if_neg e1]
    by_cases e2 : k = (d : Int)
    · rw [if_pos e2, e2, nmO_nat, if_pos ((hhas _).2 (Or.inr rfl))]
      have := nm_at hok hlen
      rw [at_app_last] at this
      rw [this]
    · rw [if_neg e2]
      by_cases hk : 0 ≤ k
      · obtain ⟨x, rfl⟩ : ∃ x : Nat, k = (x : Int) := ⟨k.toNat, by omega⟩
        have e3 : ¬ d / 2 = x / 2 := fun e => (half_eq e).elim (fun k => e2 (by rw [k])) fun k => e1 (by rw [k, xor_one_one])
        rw [nmO_nat, nmO_nat]
        by_cases hF : hasE F x = true
        · rw [if_pos hF, if_pos ((hhas x).2 (Or.inl hF))]
          obtain ⟨i, hi, k⟩ := nm_cases h hF
          have hi' : i < (F ++ [d]).length := by simp; omega
          have m1 := nm_at hok hi'
          have m2 := nm_mate hok hi'
          rw [at_app hi] at m1 m2
          rcases k with ⟨k1, k2⟩ | ⟨k1, k2⟩
          · rw [k2, k1, m1]
          · rw [k2, k1, m2]
        · rw [if_neg hF, if_neg (fun k => ((hhas x).1 k).elim hF e3)]
      · unfold nmO
        rw [if_neg (fun h => hk h.1), if_neg (fun h => hk h.1)]
theorem nmO_mate {F : List Nat} {d : Nat} (hno : hasE F d = false) (u : Int) : updF (nmO F) (d : Int) u ((d ^^^ 1 : Nat) : Int) = none := by
  rw [updF_other _ _ _ (by have := xor_one_ne d; omega), nmO_nat, if_neg]
  intro h
  have : hasE F d = true := by
    obtain ⟨i, hi, e⟩ := hasE_iff.1 h
    exact hasE_iff.2 ⟨i, hi, by rw [e, xor_one_div]⟩
  rw [this] at hno
  cases hno
/-- is a dart the first of another part, as far as it was looked? -/
def fB (N : List Int) (r i j : Nat) : Bool := !decide (nth N i = nth N r) && (List.range j).all fun x => !decide (nth N x = nth N i)
theorem fB_zero (N : List Int) (r i : Nat) : fB N r i 0 = !decide (nth N i = nth N r) := by simp [fB]
theorem fB_succ (N : List Int) (r i j : Nat) : fB N r i (j + 1) = (fB N r i j && !decide (nth N j = nth N i)) := by
  unfold fB
  rw [List.range_succ, List.all_append, Bool.and_assoc]
  simp
theorem fB_all (N : List Int) (r i : Nat) : fB N r i i = firstB N r i := rfl
/-- told so far -/
def outTo (n : Nat) (F : List Nat) (i : Nat) : List Int := (List.range n).map fun x => if x < i then ((nmF F x : Nat) : Int) else 0
theorem outTo_length (n : Nat) (F : List Nat) (i : Nat) : (outTo n F i).length = n := by simp [outTo]
theorem outTo_zero (n : Nat) (F : List Nat) : outTo n F 0 = List.replicate n 0 := by
  refine List.ext_getElem (by simp [outTo]) fun i h1 h2 => ?_
  simp [outTo]
theorem outTo_set {n : Nat} {F : List Nat} {i : Nat} : (outTo n F i).set i ((nmF F i : Nat) : Int) = outTo n F (i + 1) := by
  refine List.ext_getElem (by simp [outTo]) fun j h1 h2 => ?_
  rw [List.getElem_set]
  simp only [outTo, List.getElem_map, List.getElem_range]
  by_cases e : i = j
  · subst e; rw [if_pos rfl, if_pos (by omega)]
  · rw [if_neg e]
    by_cases h : j < i
    · rw [if_pos h, if_pos (by omega)]
    · rw [if_neg h, if_neg (by omega)]
theorem outTo_all (n : Nat) (F : List Nat) : outTo n F n = toI (canP n F) := by
  unfold outTo canP toI
  rw [List.map_map]
  refine List.map_congr_left fun j hj => ?_
  rw [if_pos (List.mem_range.1 hj)]
  rfl

set_option maxRecDepth 100000 in
set_option maxHeartbeats 4000000 in
theorem r11names_some (R : Reg) (w : World) (hI : Inv R w) (v : Value) (s : List Nat) (root : Nat) (lone : Int) (hv : FreeI R w v (toI s)) (hS : IsPerm s) (hn : s.length ≤ 131072) (he : s.length % 2 = 0) (hr : root < s.length) :
    Calls Try.prog 38 #[refV v root lone] w (RetOwn R w (toI (canL s root))) := by
  obtain ⟨a0, cap0, rfl, hv0⟩ := hv.open
  rw [toI_length] at hv hv0 ⊢
  have HNm := Lib.hid (fun w' (hee : Ev R w R w') => r8names_any R w' hee.inv _ s root lone (hv.ev hee) hS (by omega) he)
  have HWk := Lib.hid (fun w' (hee : Ev R w R w') r (hr : r < s.length) => rwalk_any R w' hee.inv _ s root lone (hv.ev hee) hS (by omega) he r hr)
  have hpl := partsL_length hS he
  have HLt := Lib.hid (rootsL_lt hr)
  have HWl := Lib.hid (fun r (hr : r < s.length) x (hx : x ∈ walkD s r) => (Con.per hS).cod ((mem_walkD hS he hr).1 hx))
  have e0 : canF s root = fstL [] ((rootsL s root).flatMap (walkD s)) := by
    unfold canF canD
    rw [if_neg (by omega)]
  have hnl := canF_length (canF_ok hS he hr) he (canF_all hS he hr)
  have HAl := Lib.hid (canF_all hS he hr)
  have hres : toI (canL s root) = outTo s.length (canF s root) s.length := (outTo_all _ _).symm
  rw [hres]
  obtain ⟨G, hG⟩ : ∃ G, canF s root = G := ⟨_, rfl⟩
  rw [hG] at hnl HAl e0 ⊢
  have HG := Lib.hid e0
  obtain ⟨n, hnn⟩ : ∃ n, s.length = n := ⟨_, rfl⟩
  obtain ⟨N, hN⟩ : ∃ N, partsL s = N := ⟨_, rfl⟩
  have hrt : rootsL s root = root :: restTo N root n := by unfold rootsL; rw [hN, hnn]
  rw [hrt] at HLt HG
  rw [hN] at HNm hpl
  rw [hnn] at HNm HWk hpl HLt HWl HAl hnl hn he hr hv hv0 ⊢
  have HNn := Lib.hid hnn
  have HPl := Lib.hid hpl
  have HNl := Lib.hid hnl
  have HEv := Lib.hid he
  have HRl : Hid (∀ i, (restTo N root i).length ≤ i) := Lib.hid (fun i => by
    unfold restTo
    have := List.length_filter_le (firstB N root) (List.range i)
    rwa [List.length_range] at this)
  unfold refV at HNm HWk
  unfold refV
  have he1 : Ev R w R (w.alloc (.cells #[.slice a0 n cap0, .int .i64 root, .int .i64 lone] 34)) := (Ev.refl hI).alloc _
  have hn1 : R w.heap.size = none := hI.none_of_ge (Nat.le_refl _)
  have HB1 := Lib.hid (fun w' (h : Ev R (w.alloc (.cells #[.slice a0 n cap0, .int .i64 root, .int .i64 lone] 34)) R w') => h.boxC3 (heap_alloc_new w _) hn1)
  have hmm := @run_makeMap Try.prog
  obtain ⟨wa, hwa⟩ : ∃ wa, wa = w.alloc (.cells #[.slice a0 n cap0, .int .i64 root, .int .i64 lone] 34) := ⟨_, rfl⟩
  have HWa := Lib.hid hwa
  have HEa : Hid (Ev R w R wa) := Lib.hid (by rw [hwa]; exact he1)
  have HM0 : Hid (FMap R (wa.alloc (.map #[] 0)) wa.heap.size 0 (fun _ => none) 0) := Lib.hid (FMap.made HEa.out.inv)
  have HEm := Lib.hid ((Ev.refl HEa.out.inv).alloc (.map #[] 0))
  rw [← hwa] at HB1
  obtain ⟨x0, x1, x2, _⟩ := boxC_cells (HB1.out _ HEm.out).1
  have hwz : wa.heap.size = w.heap.size + 1 := by rw [hwa]; simp
  clear hI hv hv0 hS hnn hN he1 hn1 e0 hG hpl hnl he hres hrt
  go_enter Try.func38, Try.ntmps38
  go_upto_region 2 with fail
  rw [← hwa] 
  rw [← hwz]
  clear hwa hwz
  go_wp2_with fail
  refine (HNm.out _ (HEa.out.trans HEm.out)).mono ?_
  rintro z w2 ⟨v2, rfl, he2, ho2⟩
  obtain ⟨aN, cN, rfl, _⟩ := ho2.ints.open
  rw [HPl.out] at ho2 ⊢
  obtain ⟨gN, rfl, _, _, kr, _⟩ := ho2.headAt HPl.out hr
  obtain ⟨b, hb⟩ : ∃ b, wa.heap.size = b := ⟨_, rfl⟩
  have HBw := Lib.hid (show wa.heap.size ≤ b by omega)
  rw [hb] at HM0 ⊢
  have HE2 := Lib.hid (HEm.out.trans he2)
  have HM2 := Lib.hid (HM0.out.ev he2)
  have HN2 := Lib.hid ho2
  have hbz : b < w2.heap.size := HM2.out.lt
  obtain ⟨x0, x1, x2, _⟩ := boxC_cells (HB1.out _ HE2.out).1
  have HEb := Lib.hid ((Ev.refl HE2.out.inv).alloc (.cells #[.int .i64 (root : Int)] 3))
  have hnp : ¬ (n : Int) ≤ 0 := by omega
  have hnp2 : 0 < n := by omega
  clear he2 ho2 hmm hb HM0
  go_wp2_with (at_builtin; refine wpList_app_int (R := R) (B := w2.heap.size) rfl _ _ rfl (OwnI.nil R w2.heap.size 3 (w2.alloc (.cells #[.int .i64 (root : Int)] 3))) rfl ⟨w2.heap.size, 0, none⟩ 1 (root : Int) ?a0 ?a1 ?a2 ?a3 ?a4 ?_)
  case a0 => first | rfl | simp
  case a1 => first | rfl | simp
  case a2 => simp
  case a3 => simp
  case a4 => exact fun q hq => HEb.out.inv.none_of_ge (by first | exact hq | (simp at hq ⊢; omega))
  intro v3 w3 ho3 hg3 hs3
  obtain ⟨a3, c3, rfl, _⟩ := ho3.ints.open
  have HE3 := Lib.hid (HEb.out.app (OwnI.nil R w2.heap.size 3 (w2.alloc (.cells #[.int .i64 (root : Int)] 3))) (Nat.le_refl _) hg3)
  have HO3 := Lib.hid (show OwnI R w2.heap.size 3 w3 (.slice a3 1 c3) (toI (root :: restTo N root 0)) from ho3)
  rw [show ([(root : Int)] : List Int).length = 1 from rfl]
  clear ho3 hg3 hs3 x0 x1 x2 kr HEb
  go_wp2_with fail
  obtain ⟨w3', hw3'⟩ : ∃ x, x = w3 := ⟨_, rfl⟩
  go_loopg [5, 35] n (fun g v5 v35 wr => ∃ (i : Nat) (a : Option Addr) (l c : Nat), i ≤ n ∧ n - i ≤ g ∧ v35 = .int .i64 (i : Int) ∧ v5 = .slice a l c ∧ l = (restTo N root i).length + 1 ∧ Ev R w2 R wr ∧ OwnI R w2.heap.size 3 wr (.slice a l c) (toI (root :: restTo N root i)))
  case atStart => exact ⟨0, a3, 1, c3, Nat.zero_le _, by omega, rfl, rfl, rfl, HE3.out, HO3.out⟩
  case round =>
    obtain ⟨i, a, l, c, hi, hg, rfl, rfl, hl, hev, ho⟩ := hrel
    have HE := Lib.hid hev
    have HO := Lib.hid ho
    have HL := Lib.hid hl
    clear hev ho hl
    by_cases hin : i < n
    · have hlb := HRl.out i
      have hrs := restTo_succ N root i
      rw [← fB_all] at hrs
      obtain ⟨x0, x1, x2, _⟩ := boxC_cells (HB1.out _ (HE2.out.trans HE.out)).1
      have hNn := HN2.out.ev HE.out
      obtain ⟨_, e1, _, _, ki, _⟩ := hNn.headAt HPl.out hin
      cases e1
      obtain ⟨_, e1, _, _, kr, _⟩ := hNn.headAt HPl.out hr
      cases e1
      have HNr := Lib.hid hNn
      obtain ⟨y, hy⟩ : ∃ y, nth N i = y := ⟨_, rfl⟩
      obtain ⟨y0, hy0⟩ : ∃ y, nth N root = y := ⟨_, rfl⟩
      rw [hy] at ki
      rw [hy0] at kr
      have hb0 : (y != y0) = fB N root i 0 := by rw [fB_zero, hy, hy0]; rfl
      have HY := Lib.hid hy
      obtain ⟨B0, hB0⟩ : ∃ B, fB N root i 0 = B := ⟨_, rfl⟩
      rw [hB0] at hb0
      have HB0 := Lib.hid hB0
      have HRs := Lib.hid hrs
      clear hNn hy hy0 hB0 hrs
      go_wp2_with fail
      obtain ⟨w4, hw4⟩ : ∃ w4, w4 = wr := ⟨_, rfl⟩
      subst hw4
      go_loopg [8, 9] i (fun g v8 v9 wr => ∃ (j : Nat) (Bj : Bool), j ≤ i ∧ i - j ≤ g ∧ v9 = .int .i64 (j : Int) ∧ v8 = .bool Bj ∧ Bj = fB N root i j ∧ wr = w4)
      case atStart => exact ⟨0, B0, Nat.zero_le _, by omega, rfl, rfl, HB0.out.symm, rfl⟩
      case round =>
        obtain ⟨j, Bj, hj, hg2, rfl, rfl, hBj, rfl⟩ := hrel
        have hfs := fB_succ N root i j
        rw [← hBj] at hfs
        have HBj := Lib.hid hBj
        clear hBj
        by_cases hji : j < i
        · obtain ⟨_, e1, _, _, kj, _⟩ := HNr.out.headAt HPl.out (i := j) (by omega)
          cases e1
          rw [HY.out] at hfs
          obtain ⟨yj, hyj⟩ : ∃ y, nth N j = y := ⟨_, rfl⟩
          rw [hyj] at kj hfs
          clear hyj
          cases Bj
          · have HFs := Lib.hid (show false = fB N root i (j + 1) by rw [hfs]; rfl)
            clear hfs
            go_wp2_with fail
            go_roundg (i - (j + 1))
            case measure => omega
            case rel => exact ⟨j + 1, false, by omega, by omega, by go_num, rfl, HFs.out, rfl⟩
          · obtain ⟨Bn, hBn⟩ : ∃ B, (yj != y) = B := ⟨_, rfl⟩
            have HFs := Lib.hid (show Bn = fB N root i (j + 1) by rw [hfs, ← hBn]; rfl)
            clear hfs
            go_wp2_with fail
            go_roundg (i - (j + 1))
            case measure => omega
            case rel => exact ⟨j + 1, Bn, by omega, by omega, by go_num, rfl, HFs.out, rfl⟩
        · obtain rfl : j = i := by omega
          clear hfs
          cases Bj
          · have HRn := Lib.hid (show restTo N root (j + 1) = restTo N root j by rw [HRs.out, ← HBj.out]; rfl)
            clear ki kr x0 x1 x2
            go_wp2_with fail
            go_roundg (n - (j + 1))
            case measure => omega
            case rel => exact ⟨j + 1, a, l, c, by omega, by omega, by go_num, rfl, by rw [HRn.out]; exact HL.out, HE.out, by rw [HRn.out]; exact HO.out⟩
          · have HRn := Lib.hid (show restTo N root (j + 1) = restTo N root j ++ [j] by rw [HRs.out, ← HBj.out]; rfl)
            have HEa' := Lib.hid (HE.out.alloc (.cells #[.int .i64 (j : Int)] 3))
            have HOa' := Lib.hid (HO.out.alloc (.cells #[.int .i64 (j : Int)] 3))
            have hLl : Hid ((toI (root :: restTo N root j)).length = l) := Lib.hid (by rw [toI_length, List.length_cons, HL.out])
            clear ki kr x0 x1 x2
            go_wp2_with (at_builtin; refine wpList_app_int (R := R) (B := w2.heap.size) rfl _ _ rfl HOa'.out rfl ⟨wr.heap.size, 0, none⟩ 1 (j : Int) ?a0 ?a1 ?a2 ?a3 ?a4 ?_)
            case a0 => first | rfl | simp
            case a1 => first | rfl | simp
            case a2 => have := hLl.out; have := HL.out; omega
            case a3 => have := HEa'.out.size; first | exact this | (simp at this ⊢; omega)
            case a4 => exact fun q hq => HEa'.out.inv.none_of_ge (by first | exact hq | (simp at hq ⊢; omega))
            intro v8 w8 ho8 hg8 hs8
            obtain ⟨a8, c8, rfl, _⟩ := ho8.ints.open
            have hl8 : (toI (root :: restTo N root j) ++ [(j : Int)]).length = l + 1 := by rw [List.length_append, hLl.out]; rfl
            have hx8 : toI (root :: restTo N root j) ++ [(j : Int)] = toI (root :: restTo N root (j + 1)) := by rw [HRn.out]; simp [toI]
            rw [hl8] at ho8 ⊢
            rw [hx8] at ho8
            have HE8 := Lib.hid (HEa'.out.app HOa'.out (Nat.le_refl _) hg8)
            have HO8 := Lib.hid ho8
            clear ho8 hg8 hs8 hl8 hx8
            go_wp2_with fail
            go_roundg (n - (j + 1))
            case measure => omega
            case rel => exact ⟨j + 1, a8, l + 1, c8, by omega, by omega, by go_num, rfl, by rw [HRn.out, List.length_append, List.length_singleton, HL.out], HE8.out, HO8.out⟩
    · obtain rfl : i = n := by omega
      obtain ⟨rs, hrs⟩ : ∃ rs, root :: restTo N root i = rs := ⟨_, rfl⟩
      have hlr : rs.length = l := by rw [← hrs, List.length_cons, HL.out]
      have hLb : l ≤ i + 1 := by rw [HL.out]; have := HRl.out i; omega
      rw [hrs] at HO HLt HG
      have HLr := Lib.hid hlr
      obtain ⟨n, hni⟩ : ∃ n, n = i := ⟨_, rfl⟩
      subst hni
      have HMz : Hid (FMap R wr b 0 (nmO []) 0) := Lib.hid (by rw [nmO_nil]; exact HM2.out.ev HE.out)
      have HEz := Lib.hid (HE2.out.trans HE.out)
      obtain ⟨w5, hw5⟩ : ∃ w5, w5 = wr := ⟨_, rfl⟩
      subst hw5
      clear hlr hrs HM2 HN2 HE HL hin
      go_wp2_with fail
      go_loopg [69] l (fun g v69 wr => ∃ (k : Nat) (F : List Nat), k ≤ l ∧ l - k ≤ g ∧ v69 = .int .i64 (k : Int) ∧ F = fstL [] ((rs.take k).flatMap (walkD s)) ∧ FOk n F ∧ Ev R wa R wr ∧ FMap R wr b (2 * F.length) (nmO F) (2 * F.length) ∧ OwnI R w2.heap.size 3 wr (.slice a l c) (toI rs))
      case atStart => exact ⟨0, [], Nat.zero_le _, by omega, rfl, by simp [fstL], FOk.nil n, HEz.out, HMz.out, HO.out⟩
      case round =>
        obtain ⟨k, F, hk, hg, rfl, hF, hFok, hev, hm, hro⟩ := hrel
        have HFe := Lib.hid hF
        have HFk := Lib.hid hFok
        have HE := Lib.hid hev
        have HM := Lib.hid hm
        have HRo := Lib.hid hro
        clear hF hFok hev hm hro
        by_cases hkl : k < l
        · have hkr : k < rs.length := by rw [HLr.out]; exact hkl
          obtain ⟨gR, rfl, _, _, hc, _⟩ := HRo.out.headAt (by rw [toI_length, HLr.out]) hkl
          rw [toI_nth] at hc
          have hrm := HLt.out (at' rs k) (by rw [at'_eq hkr]; exact List.getElem_mem hkr)
          have hfl := fst_flat (s := s) hkr
          rw [← HFe.out] at hfl
          obtain ⟨r, hrr⟩ : ∃ r, at' rs k = r := ⟨_, rfl⟩
          rw [hrr] at hc hrm hfl
          have HFl := Lib.hid hfl
          have HWr := Lib.hid (HWk.out _ (HEa.out.trans HE.out) r hrm)
          have HPw := Lib.hid (walkD_length s r)
          have HWx := Lib.hid (HWl.out r hrm)
          have hwg := fun j (hj : j < partC' s r) => walkD_at (s := s) (r := r) hj
          have hdg : ∀ j, j < partC' s r → nth (dartsW s (sizesL s).length r (partC' s r)) j = ((wd s (sizesL s).length r j : Nat) : Int) := fun j hj => by simp [dartsW, nth, hj]
          have hdl := dartsW_length s (sizesL s).length r (partC' s r)
          have hkl2 := kindsW_length s (sizesL s).length r (partC' s r)
          have hPb : partC' s r ≤ n := by have := tally_le (Con s r) s.length; rw [HNn.out] at this; unfold partC'; rwa [HNn.out]
          obtain ⟨P, hP⟩ : ∃ P, partC' s r = P := ⟨_, rfl⟩
          rw [hP] at hPb HWr HPw hwg hdg hdl hkl2
          obtain ⟨DL, hDL⟩ : ∃ l, dartsW s (sizesL s).length r P = l := ⟨_, rfl⟩
          obtain ⟨KL, hKL⟩ : ∃ l, kindsW s (sizesL s).length r P = l := ⟨_, rfl⟩
          rw [hDL] at HWr hdg hdl
          rw [hKL] at HWr hkl2
          have HWg := Lib.hid hwg
          have HDg := Lib.hid hdg
          have HDl := Lib.hid hdl
          have HKl := Lib.hid hkl2
          obtain ⟨x0, x1, x2, _⟩ := boxC_cells (HB1.out _ HE.out).1
          clear hrr hfl hP hDL hKL hwg hdg hdl hkl2
          go_wp2_with fail
          refine HWr.out.mono ?_
          rintro z w6 ⟨aD, aK, cD, cK, rfl, he6, hd6, _⟩
          rw [HDl.out] at hd6 ⊢
          have HE6 := Lib.hid (HE.out.trans he6)
          have HM6 := Lib.hid (HM.out.ev he6)
          have HR6 := Lib.hid (HRo.out.ev he6)
          have HD6 := Lib.hid hd6
          have hbw : b < wr.heap.size := HM.out.lt
          obtain ⟨B3, hB3⟩ : ∃ B, wr.heap.size = B := ⟨_, rfl⟩
          rw [hB3] at HD6 hbw
          have HBw3 := Lib.hid hbw
          obtain ⟨w6', hw6⟩ : ∃ w6', w6' = w6 := ⟨_, rfl⟩
          subst hw6
          clear he6 hd6 hc hB3 hbw x0 x1 x2
          go_wp2_with fail
          go_loopg [81] P (fun g v81 wr => ∃ (j : Nat) (F' : List Nat), j ≤ P ∧ P - j ≤ g ∧ v81 = .int .i64 (j : Int) ∧ F' = fstL F ((walkD s r).take j) ∧ FOk n F' ∧ Ev R wa R wr ∧ FMap R wr b (2 * F'.length) (nmO F') (2 * F'.length) ∧ OwnI R w2.heap.size 3 wr (.slice (some ⟨gR, 0, none⟩) l c) (toI rs) ∧ OwnI R B3 3 wr (.slice aD P cD) DL)
          case atStart => exact ⟨0, F, Nat.zero_le _, by omega, rfl, rfl, HFk.out, HE6.out, HM6.out, HR6.out, HD6.out⟩
          case round =>
            obtain ⟨j, F', hj, hg2, rfl, hF, hFok, hev, hm, hro, hdo⟩ := hrel
            have HFe2 := Lib.hid hF
            have HFk2 := Lib.hid hFok
            have HE7 := Lib.hid hev
            have HM7 := Lib.hid hm
            have HR7 := Lib.hid hro
            have HD7 := Lib.hid hdo
            clear hF hFok hev hm hro hdo
            by_cases hjP : j < P
            · have hjw : j < (walkD s r).length := by rw [HPw.out]; exact hjP
              obtain ⟨gD, rfl, _, _, kd, _⟩ := HD7.out.headAt HDl.out hjP
              rw [HDg.out j hjP] at kd
              have hdn := HWx.out (at' (walkD s r) j) (by rw [at'_eq hjw]; exact List.getElem_mem hjw)
              have hft := fst_take (F := F) hjw
              rw [HWg.out j hjP] at hdn hft
              obtain ⟨d, hd⟩ : ∃ d, wd s (sizesL s).length r j = d := ⟨_, rfl⟩
              rw [hd] at kd hdn hft
              rw [← HFe2.out] at hft
              have HFt := Lib.hid hft
              have hlk := HM7.out.lookOk (d : Int) (by omega)
              have hnd := nmO_nat F' d
              have hFb := HFk2.out.len_le HEv.out
              clear hd hft
              by_cases hh : hasE F' d = true
              · rw [if_pos hh] at hnd
                rw [hnd] at hlk
                have hlk' : (Instr.lookup 108 (.map (some b)) (.int .i64 (d : Int)) true).run Try.prog wr = .ok (.tuple #[.int .i64 ((nmF F' d : Nat) : Int), .bool true]) wr := hlk
                have HFn := Lib.hid (show fstL F ((walkD s r).take (j + 1)) = F' by rw [HFt.out]; unfold fstAdd; rw [if_pos hh])
                clear hlk hnd hh
                go_wp2_with fail
                go_roundg (P - (j + 1))
                case measure => omega
                case rel => exact ⟨j + 1, F', by omega, by omega, by go_num, HFn.out.symm, HFk2.out, HE7.out, HM7.out, HR7.out, HD7.out⟩
              · have hhf : hasE F' d = false := by simpa using hh
                rw [if_neg hh] at hnd
                rw [hnd] at hlk
                have hlk' : (Instr.lookup 108 (.map (some b)) (.int .i64 (d : Int)) true).run Try.prog wr = .ok (.tuple #[.int .i64 0, .bool false]) wr := hlk
                have HFn := Lib.hid (show fstL F ((walkD s r).take (j + 1)) = F' ++ [d] by rw [HFt.out]; unfold fstAdd; rw [if_neg hh])
                have HFk3 : Hid (FOk n (F' ++ [d])) := Lib.hid (by
                  have := HFk2.out.add hdn
                  unfold fstAdd at this
                  rwa [if_neg hh] at this)
                have hna := nmO_add HFk2.out hdn hhf
                obtain ⟨t, ht⟩ : ∃ t, 2 * F'.length = t := ⟨_, rfl⟩
                have hmn := nmO_mate hhf (t : Int)
                rw [ht] at hna hFb HM7
                obtain ⟨t1, ht1⟩ : ∃ x, t + 1 = x := ⟨_, rfl⟩
                rw [ht1] at hna
                have HT2 : Hid (2 * (F' ++ [d]).length = t + 1 + 1) := Lib.hid (by rw [List.length_append, List.length_singleton, ← ht]; omega)
                have hw1 : IntKind.i64.wrap ((t : Int) + 1) = (t1 : Int) := by rw [show (t : Int) + 1 = (t1 : Int) by omega]; exact IntWalk.i64_in _ (by omega)
                obtain ⟨dm, hdm⟩ : ∃ x, d ^^^ 1 = x := ⟨_, rfl⟩
                have hxl : dm < n := by rw [← hdm]; exact xor_one_lt HEv.out hdn
                rw [hdm] at hna hmn
                have HDm := Lib.hid hdm
                have HNa := Lib.hid hna
                have HMn := Lib.hid hmn
                have HNd := Lib.hid hnd
                have hlen := fun ty => HM7.out.len ty
                clear hlk hnd hh hhf hna hmn ht hdm
                go_upto_region 28 with (first | (at_mapUpdate; refine wpList_fput rfl _ _ _ rfl HM7.out (by omega) (d : Int) (t : Int) rfl rfl rfl (by omega) (by omega) ?_; intro w8 hm8 hg8) | fail)
                rw [HNd.out] at hm8
                have HM8 : Hid (FMap R w8 b (t + 1) (updF (nmO F') (d : Int) (t : Int)) (t + 1)) := Lib.hid hm8
                have HE8 := Lib.hid (HE7.out.mput HM7.out (by exact HBw.out) hg8)
                have hRn : (Value.slice (some ⟨gR, 0, none⟩) l c).ownBlock ≠ some b := fun e => by
                  have h1 := (HR7.out.lt _ e).1
                  omega
                have hDn : (Value.slice (some ⟨gD, 0, none⟩) P cD).ownBlock ≠ some b := fun e => by
                  have h1 := (HD7.out.lt _ e).1
                  have h2 := HBw3.out
                  omega
                have HR8 := Lib.hid (HR7.out.kept hg8 (Or.inr hRn))
                have HD8 := Lib.hid (HD7.out.kept hg8 (Or.inr hDn))
                clear hm8 hg8 hlk' hlen kd HM7 HE7 HR7 HD7
                go_wp2_with (first | (go_at_call 65; refine (rmate_any _ d (by omega)).mono ?_; rintro e w9 ⟨rfl, rfl⟩; rw [HDm.out]) | (at_mapUpdate; refine wpList_fput rfl _ _ _ rfl HM8.out (by omega) (dm : Int) (t1 : Int) rfl rfl rfl (by omega) (by omega) ?_; intro w9 hm9 hg9) | fail)
                rw [HMn.out, HNa.out] at hm9
                have HM9 : Hid (FMap R w9 b (t + 1 + 1) (nmO (F' ++ [d])) (t + 1 + 1)) := Lib.hid hm9
                have HE9 := Lib.hid (HE8.out.mput HM8.out (by exact HBw.out) hg9)
                have HR9 := Lib.hid (HR8.out.kept hg9 (Or.inr hRn))
                have HD9 := Lib.hid (HD8.out.kept hg9 (Or.inr hDn))
                clear hm9 hg9 hRn hDn
                go_wp2_with fail
                go_roundg (P - (j + 1))
                case measure => omega
                case rel => exact ⟨j + 1, F' ++ [d], by omega, by omega, by go_num, HFn.out.symm, HFk3.out, HE9.out, by rw [HT2.out]; exact HM9.out, HR9.out, HD9.out⟩
            · obtain rfl : j = P := by omega
              have HFz := Lib.hid (show fstL F (walkD s r) = F' by rw [HFe2.out, ← HPw.out, List.take_length])
              go_wp2_with fail
              go_roundg (l - (k + 1))
              case measure => omega
              case rel => exact ⟨k + 1, F', by omega, by omega, by go_num, by rw [HFl.out, HFz.out], HFk2.out, HE7.out, HM7.out, HR7.out⟩
        · obtain rfl : k = l := by omega
          have hFG : F = G := by rw [HFe.out, HG.out, ← HLr.out, List.take_length]
          subst hFG
          have hNl := HNl.out
          rw [hNl] at HM
          obtain ⟨x0, x1, x2, _⟩ := boxC_cells (HB1.out _ HE.out).1
          obtain ⟨i0, hi0, hz0, hz1, hz2⟩ := info_parts int_info
          clear HRo HFk
          go_wp2_with (first | (refine wpList_make_full _ rfl _ _ 32 rfl wr.heap.size 3 i0 (.int .i64 0) 1 Try.underlying32 hi0 hz0 hz1 .i64 .i64 (n : Int) (n : Int) n rfl rfl rfl rfl ?q1 ?q2 (Nat.le_refl _) ?_))
          case q1 => rw [hz2]; omega
          case q2 => unfold maxLen; omega
          intro w6 ho6 hg6
          have HE6 := Lib.hid (HE.out.grown hg6 (by simp))
          have HM6 := Lib.hid (HM.out.kept hg6 (by simp))
          have hO6 : OwnI R wr.heap.size 3 w6 (.slice (some ⟨wr.heap.size, 0, none⟩) n n) (outTo n F 0) := by rw [outTo_zero]; exact OwnI.made HE.out.inv ho6
          have hbg : b < wr.heap.size := HM.out.lt
          obtain ⟨g6, hg6e⟩ : ∃ g, wr.heap.size = g := ⟨_, rfl⟩
          have HBg := Lib.hid (show b < g6 by rw [← hg6e]; exact hbg)
          have HWg := Lib.hid (show wa.heap.size ≤ g6 by rw [← hg6e]; exact HE.out.size)
          rw [hg6e] at hO6 ⊢
          have HO6 := Lib.hid hO6
          clear ho6 hg6 hO6 hg6e hbg x0 x1 x2 hi0 hz0 hz1 hz2
          go_wp2_with fail
          go_loopg [111] n (fun g v111 wr => ∃ i : Nat, i ≤ n ∧ n - i ≤ g ∧ v111 = .int .i64 (i : Int) ∧ Ev R wa R wr ∧ FMap R wr b n (nmO F) n ∧ OwnI R g6 3 wr (.slice (some ⟨g6, 0, none⟩) n n) (outTo n F i))
          case atStart => exact ⟨0, Nat.zero_le _, by omega, rfl, HE6.out, HM6.out, HO6.out⟩
          case round =>
            obtain ⟨i, hi, hg3, rfl, hev, hm, ho⟩ := hrel
            have HE7 := Lib.hid hev
            have HM7 := Lib.hid hm
            have HO7 := Lib.hid ho
            clear hev hm ho
            by_cases hin : i < n
            · have hlk := HM7.out.look (i : Int) (by omega)
              rw [nmO_nat, if_pos (HAl.out i hin)] at hlk
              have hos := outTo_set (n := n) (F := F) (i := i)
              obtain ⟨y, hy⟩ : ∃ y, nmF F i = y := ⟨_, rfl⟩
              rw [hy] at hlk hos
              have hlk' : (Instr.lookup 108 (.map (some b)) (.int .i64 (i : Int)) false).run Try.prog wr = .ok (.int .i64 (y : Int)) wr := hlk
              obtain ⟨_, e1, hBg, hRg, kc, zc⟩ := HO7.out.headAt (outTo_length n F i) hin
              cases e1
              have HPut := Lib.hid (by have h := HO7.out.put (outTo_length n F i) i hin (y : Int); rw [hos] at h; exact h : OwnI R g6 3 (wr.setCell ⟨g6, i, none⟩ (.int .i64 (y : Int))) (.slice (some ⟨g6, 0, none⟩) n n) (outTo n F (i + 1)))
              have HEp := Lib.hid (HE7.out.setCell (p := ⟨g6, i, none⟩) HWg.out hRg (.int .i64 (y : Int)))
              have HMp := Lib.hid (HM7.out.setCell (a := ⟨g6, i, none⟩) (show b ≠ g6 by have := HBg.out; omega) (.int .i64 (y : Int)))
              clear hlk hos hy
              go_wp2_with fail
              go_roundg (n - (i + 1))
              case measure => omega
              case rel => exact ⟨i + 1, by omega, by omega, by go_num, HEp.out, HMp.out, HPut.out⟩
            · obtain rfl : i = n := by omega
              go_wp2_with fail
              go_ret
              exact ⟨_, rfl, HEa.out.trans HE7.out, HO7.out.mono (by have := HEa.out.size; have := HWg.out; omega)⟩

end Go.Proofs.Ytlbhmonpfchocaa

namespace Go.Proofs.Ytlbhmonpfchocaa
open Go.RowKit
set_option linter.unusedVariables false

/-- a draft in memory: block b, of the map p, with the list L; begun behind w0 -/
structure DraftAt (R0 : Reg) (w0 : World) (R : Reg) (w : World) (b : Nat) (p : Value) (L : List Nat) : Prop where
  ev : Ev R0 w0 R w
  lt : w0.heap.size ≤ b
  nb : R b = none
  ex : ∃ a cap, w.heap[b]? = some (.cells #[p, .slice a L.length cap] 127 (0, 0)) ∧ OwnI R w0.heap.size 3 w (.slice a L.length cap) (toI L) ∧ (Value.slice a L.length cap).ownBlock ≠ some b
section
variable {R0 R R' : Reg} {w0 w w' : World} {b : Nat} {p : Value} {L : List Nat}
theorem DraftAt.step (h : DraftAt R0 w0 R w b p L) (he : Ev R w R' w') : DraftAt R0 w0 R' w' b p L := by
  obtain ⟨a, cap, h1, h2, h3⟩ := h.ex
  exact ⟨h.ev.trans he, h.lt, he.free b (lt_of_block h1) h.nb, a, cap, (he.block b (lt_of_block h1) h.nb).trans h1, h2.ev he, h3⟩
theorem DraftAt.older {R1 : Reg} {w1 : World} (h : DraftAt R1 w1 R w b p L) (he : Ev R0 w0 R1 w1) : DraftAt R0 w0 R w b p L := by
  obtain ⟨a, cap, h1, h2, h3⟩ := h.ex
  exact ⟨he.trans h.ev, Nat.le_trans he.size h.lt, h.nb, a, cap, h1, h2.mono he.size, h3⟩
theorem DraftAt.drew (h : DraftAt R0 w0 R w b p L) : DraftAt R0 w0 R w.drew b p L := h.step (Ev.refl h.ev.inv).drew
theorem draft_cells {x y : Value} {T : TypeId} (hb : w.heap[b]? = some (.cells #[x, y] T (0, 0))) : w.cell? ⟨b, 0, none⟩ = some x ∧ w.cell? ⟨b, 1, none⟩ = some y ∧ ∀ o, w.frozen? ⟨b, o, none⟩ = false :=
  ⟨cells_at hb 0, cells_at hb 1, fun o => by simp [World.frozen?, hb]⟩
/-- a store into its list -/
theorem DraftAt.put {a : Option Addr} {cap n : Nat} (h : DraftAt R0 w0 R w b p L) (hn : L.length = n) (h1 : w.heap[b]? = some (.cells #[p, .slice a n cap] 127 (0, 0))) (h2 : OwnI R w0.heap.size 3 w (.slice a n cap) (toI L)) (h3 : (Value.slice a n cap).ownBlock ≠ some b) {g : Nat} (hg : a = some ⟨g, 0, none⟩) {i : Nat} (hi : i < n) (y : Nat) :
    let w1 := w.setCell ⟨g, i, none⟩ (.int .i64 ((y : Nat) : Int))
    DraftAt R0 w0 R w1 b p (L.set i y) ∧ w1.heap[b]? = some (.cells #[p, .slice a n cap] 127 (0, 0)) ∧ OwnI R w0.heap.size 3 w1 (.slice a n cap) (toI (L.set i y)) := by
  subst hg
  have hgb : b ≠ g := fun e => h3 (by simp [Value.ownBlock, e])
  have e1 : toI (L.set i y) = (toI L).set i ((y : Nat) : Int) := by simp [toI, List.map_set]
  have hb : (w.setCell ⟨g, i, none⟩ (.int .i64 ((y : Nat) : Int))).heap[b]? = some (.cells #[p, .slice (some ⟨g, 0, none⟩) n cap] 127 (0, 0)) := by
    rw [Below.heap_setCell _ _ _ _ hgb]; exact h1
  have ho : OwnI R w0.heap.size 3 (w.setCell ⟨g, i, none⟩ (.int .i64 ((y : Nat) : Int))) (.slice (some ⟨g, 0, none⟩) n cap) (toI (L.set i y)) := by
    rw [e1]; exact h2.put (by rw [toI_length]; exact hn) i hi _
  refine ⟨⟨h.ev.setCell (p := ⟨g, i, none⟩) (h2.lt g rfl).1 (h2.2 g rfl) _, h.lt, h.nb, some ⟨g, 0, none⟩, cap, ?_, ?_, ?_⟩, hb, ho⟩
  · rw [List.length_set, hn]; exact hb
  · rw [List.length_set, hn]; exact ho
  · rw [List.length_set, hn]; exact h3
end

/-- the first list's darts are all in range -/
def inAll (n : Nat) (xs : List Int) : Bool := xs.all fun x => decide (0 ≤ x ∧ x < n)
theorem inAll_take {n : Nat} {xs : List Int} {k : Nat} (hk : k < xs.length) : inAll n (xs.take (k + 1)) = (inAll n (xs.take k) && decide (0 ≤ nth xs k ∧ nth xs k < n)) := by
  unfold inAll
  rw [List.take_succ_eq_append_getElem hk, List.all_append]
  simp [nth, hk]
theorem inAll_le {n : Nat} {xs : List Int} {k : Nat} (hk : inAll n (xs.take k) = false) : inAll n xs = false := by
  unfold inAll at hk ⊢
  rw [List.all_eq_false] at hk ⊢
  obtain ⟨x, hx, h⟩ := hk
  exact ⟨x, List.mem_of_mem_take hx, h⟩

def RetGof (R : Reg) (w : World) (p : Value) (s : List Nat) (xs : List Int) (e : Ending) (w' : World) : Prop :=
  (inAll s.length xs = false ∧ e = .returned (.tuple #[.pointer none, .int .i64 1]) ∧ w = w') ∨
  (inAll s.length xs = true ∧ ∃ b, e = .returned (.tuple #[.pointer (some ⟨b, 0, none⟩), .int .i64 0]) ∧ DraftAt R w R w' b p s)

theorem gof_nil (w : World) (v : Value) : Calls Try.prog 53 #[.pointer none, v] w fun e w' => e = .returned (.tuple #[.pointer none, .int .i64 2]) ∧ w = w' := by
  go_enter Try.func53, Try.ntmps53
  go_wp2_with fail
  go_ret2
  exact ⟨rfl, rfl⟩

set_option maxRecDepth 100000 in
set_option maxHeartbeats 2000000 in
theorem gof_any (R : Reg) (w : World) (hI : Inv R w) (p : Value) (s : List Nat) (root lone : Int) (hp : MapAt R p s root lone) (v : Value) (xs : List Int) (hv : FreeI R w v xs) (hxn : xs.length ≤ 1000) :
    Calls Try.prog 53 #[p, v] w (RetGof R w p s xs) := by
  have HDa := Lib.hid (darts_any R w hI p s root lone hp)
  have HLs := Lib.hid (mlist_any R w hI p s root lone hp)
  obtain ⟨a, cap, rfl, hv⟩ := hv.open
  have HV := Lib.hid hv.1
  have HI := Lib.hid hI
  obtain ⟨b, rfl, hb⟩ := hp
  obtain ⟨n, hn⟩ : ∃ n, xs.length = n := ⟨_, rfl⟩
  rw [hn] at hxn HV ⊢
  have HN := Lib.hid hn
  clear hI hb hv hn
  go_enter Try.func53, Try.ntmps53
  go_wp2_with fail
  go_loopg [12] n (fun g v12 wr => ∃ k : Nat, k ≤ n ∧ n - k ≤ g ∧ v12 = .int .i64 (k : Int) ∧ inAll s.length (xs.take k) = true ∧ wr = w)
  case atStart => exact ⟨0, Nat.zero_le _, by omega, rfl, by simp [inAll], rfl⟩
  case round =>
    obtain ⟨k, hk, hg, rfl, hin, rfl⟩ := hrel
    by_cases hkn : k < n
    · obtain ⟨bS, oS, rfl, hc⟩ := HV.out.cell (i := k) (by rw [HN.out]; exact hkn)
      have hst := inAll_take (n := s.length) (xs := xs) (k := k) (by rw [HN.out]; exact hkn)
      obtain ⟨x, hx⟩ : ∃ x, nth xs k = x := ⟨_, rfl⟩
      rw [hx] at hc hst
      rw [hin, Bool.true_and] at hst
      have HSt := Lib.hid hst
      clear hst hx
      by_cases hlo : x < 0
      · have hf := Lib.hid (HSt.out.trans (decide_eq_false (by omega)))
        go_wp2_with fail
        go_ret2
        exact Or.inl ⟨inAll_le hf.out, rfl, rfl⟩
      · by_cases hhi : (s.length : Int) ≤ x
        · have hf := Lib.hid (HSt.out.trans (decide_eq_false (by omega)))
          go_wp2_with fail
          refine HDa.out.mono ?_
          rintro e w' ⟨rfl, rfl⟩
          go_wp2_with fail
          go_ret2
          exact Or.inl ⟨inAll_le hf.out, rfl, rfl⟩
        · have hf := Lib.hid (HSt.out.trans (decide_eq_true (by omega)))
          have hhi2 : x < (s.length : Int) := by omega
          go_wp2_with fail
          refine HDa.out.mono ?_
          rintro e w' ⟨rfl, rfl⟩
          go_wp2_with fail
          go_roundg (n - (k + 1))
          case measure => omega
          case rel => exact ⟨k + 1, by omega, by omega, by go_num, hf.out, rfl⟩
    · obtain rfl : k = n := by omega
      have hall : inAll s.length xs = true := by rw [← hin, ← HN.out, List.take_length]
      obtain ⟨w0, hw0⟩ : ∃ w0, w0 = wr := ⟨_, rfl⟩
      subst hw0
      clear hin
      go_wp2_with fail
      refine HLs.out.mono ?_
      rintro e w1 ⟨v1, rfl, he, ho⟩
      obtain ⟨a1, c1, rfl, _⟩ := ho.ints.open
      rw [toI_length] at ho ⊢
      have hne : (Value.slice a1 s.length c1).ownBlock ≠ some w1.heap.size := fun e => by have := (ho.lt _ e).2; omega
      have HH := Lib.hid (show Ev R w0 R w1 ∧ OwnI R w0.heap.size 3 w1 (.slice a1 s.length c1) (toI s) ∧ _ from ⟨he, ho, hne⟩)
      clear he ho hne
      go_wp2_with fail
      go_ret2
      obtain ⟨he, ho, hne⟩ := HH.out
      refine Or.inr ⟨hall, w1.heap.size, rfl, he.alloc _, he.size, he.inv.none_of_ge (Nat.le_refl _), a1, c1, ?_, ho.alloc _, hne⟩
      exact heap_alloc_new _ _

set_option maxRecDepth 100000 in
set_option maxHeartbeats 2000000 in
theorem gedge_any {R0 R : Reg} {w0 w : World} {b : Nat} {p : Value} {L : List Nat} (h : DraftAt R0 w0 R w b p L) (hn : L.length ≤ 4000000) :
    Calls Try.prog 56 #[.pointer (some ⟨b, 0, none⟩)] w fun e w' => e = .returned (.int .i64 (L.length : Int)) ∧ DraftAt R0 w0 R w' b p (L ++ [L.length, L.length + 1]) := by
  obtain ⟨a, cap, h1, h2, h3⟩ := h.ex
  obtain ⟨n, hln⟩ : ∃ n, L.length = n := ⟨_, rfl⟩
  rw [hln] at h1 h2 h3 hn ⊢
  obtain ⟨c0, c1, hf⟩ := draft_cells h1
  have hf1 := hf 1
  have HLn := Lib.hid hln
  have hw1 : IntKind.i64.wrap ((n : Int) + 1) = ((n + 1 : Nat) : Int) := by rw [show (n : Int) + 1 = ((n + 1 : Nat) : Int) by omega]; exact IntWalk.i64_in _ (by omega)
  obtain ⟨n1, hn1⟩ : ∃ x, n + 1 = x := ⟨_, rfl⟩
  rw [hn1] at hw1 ⊢
  have HN1 := Lib.hid hn1
  have H := Lib.hid h
  have HH := Lib.hid (show w.heap[b]? = _ ∧ _ ∧ _ from ⟨h1, h2, h3⟩)
  have HEa := Lib.hid (h.ev.alloc (.cells #[.int .i64 (n : Int), .int .i64 (n1 : Int)] 3))
  have HOa := Lib.hid (h2.alloc (.cells #[.int .i64 (n : Int), .int .i64 (n1 : Int)] 3))
  have hlb : b < w.heap.size := lt_of_block h1
  clear h h1 h2 h3 hf hln hn1
  go_enter Try.func56, Try.ntmps56
  go_wp2_with (at_builtin; refine wpList_app_ints (R := R) (B := w0.heap.size) rfl _ _ rfl HOa.out rfl ⟨w.heap.size, 0, none⟩ 2 2 [(n : Int), (n1 : Int)] rfl ?a0 ?a1 ?a2 ?a3 ?a4 ?_)
  try (case a0 => first | rfl | simp)
  case a1 =>
    intro j hj
    match j, hj with
    | 0, _ => simp [Addr.add, nth]
    | 1, _ => simp [Addr.add, nth]
  case a2 => rw [toI_length, HLn.out]; omega
  case a3 => have := H.out.ev.size; first | omega | (simp; omega)
  case a4 => exact fun q hq => HEa.out.inv.none_of_ge (by simp at hq ⊢; omega)
  intro v8 w6 ho8 hg6 hs6
  have hap : toI L ++ [(n : Int), (n1 : Int)] = toI (L ++ [n, n1]) := by simp [toI]
  rw [hap] at ho8
  obtain ⟨a8, c8, rfl, _⟩ := ho8.ints.open
  have hl8 : (toI (L ++ [n, n1])).length = n + 2 := by rw [toI_length, List.length_append, HLn.out]; rfl
  rw [hl8] at ho8 hs6 ⊢
  obtain ⟨k1, k2, k3⟩ := HH.out
  have hb6 : w6.heap[b]? = some (.cells #[p, .slice a n cap] 127 (0, 0)) := by
    rw [hg6.block b (by simp; omega) (fun e => k3 e.symm), heap_alloc_old _ _ hlb]; exact k1
  have hn8 : (Value.slice a8 (n + 2) c8).ownBlock ≠ some b := fun e => by
    rcases hs6 b e with h | h
    · exact k3 h
    · have h' : w.heap.size + 1 ≤ b := by simpa using h
      omega
  obtain ⟨d0, d1, df⟩ := draft_cells hb6
  have df1 := df 1
  have HE6 := Lib.hid (HEa.out.app HOa.out (Nat.le_refl _) hg6)
  have HH6 := Lib.hid (show w6.heap[b]? = _ ∧ OwnI R w0.heap.size 3 w6 (.slice a8 (n + 2) c8) _ ∧ _ from ⟨hb6, ho8, hn8⟩)
  clear hap k1 k2 k3 hg6 hs6 ho8 hb6 hn8 df hl8 c0 c1 hf1 HEa HOa
  go_wp2_with fail
  go_ret
  obtain ⟨hb6, ho8, hn8⟩ := HH6.out
  have hlen : (L ++ [n, n1]).length = n + 2 := by rw [List.length_append, HLn.out]; rfl
  refine ⟨rfl, HE6.out.setCell (p := ⟨b, 1, none⟩) H.out.lt H.out.nb _, H.out.lt, H.out.nb, a8, c8, ?_, ?_, ?_⟩
  · rw [hlen]; exact heap_setCell_same _ _ 1 _ _ _ hb6
  · rw [hlen]; exact ho8.setCell (a := ⟨b, 1, none⟩) hn8 _
  · rw [hlen]; exact hn8

/-- a dart that is alone, right behind another one -/
def behindL (L : List Nat) (d at_ : Nat) : List Nat := (L.set d (at' L at_)).set at_ d

set_option maxRecDepth 100000 in
set_option maxHeartbeats 2000000 in
theorem gbehind_any {R0 R : Reg} {w0 w : World} {b : Nat} {p : Value} {L : List Nat} (h : DraftAt R0 w0 R w b p L) (hn : L.length ≤ 4000000) {d t : Nat} (hd : d < L.length) (ht : t < L.length) :
    Calls Try.prog 57 #[.pointer (some ⟨b, 0, none⟩), .int .i64 (d : Int), .int .i64 (t : Int)] w fun e w' => e = .returned (.tuple #[]) ∧ DraftAt R0 w0 R w' b p (behindL L d t) := by
  obtain ⟨a, cap, h1, h2, h3⟩ := h.ex
  obtain ⟨n, hln⟩ : ∃ n, L.length = n := ⟨_, rfl⟩
  rw [hln] at h1 h2 h3 hn hd ht
  obtain ⟨g, rfl, _, _, k1, kf1⟩ := h2.headAt (by rw [toI_length]; exact hln) ht
  obtain ⟨g', e, _, _, _, kf2⟩ := h2.headAt (by rw [toI_length]; exact hln) hd
  cases e
  rw [toI_nth] at k1
  obtain ⟨y, hy⟩ : ∃ y, at' L t = y := ⟨_, rfl⟩
  rw [hy] at k1
  obtain ⟨q1, q2, q3⟩ := DraftAt.put h hln h1 h2 h3 rfl hd y
  obtain ⟨q4, q5, q6⟩ := DraftAt.put q1 (by rw [List.length_set]; exact hln) q2 q3 h3 rfl ht d
  obtain ⟨g', e, _, _, k2, kf3⟩ := q3.headAt (by rw [toI_length, List.length_set]; exact hln) ht
  cases e
  have hq : (L.set d y).set t d = behindL L d t := by unfold behindL; rw [hy]
  rw [hq] at q4
  obtain ⟨c0, c1, hf⟩ := draft_cells h1
  have HQ := Lib.hid q4
  clear h h1 h2 h3 hf hln q1 q2 q3 q4 q5 q6 hq hy
  go_enter Try.func57, Try.ntmps57
  go_wp2_with fail
  go_region
  all_goals (go_wp2_with fail)
  all_goals go_end0
  all_goals exact ⟨rfl, HQ.out.drew⟩

theorem new_two (R : Reg) (w : World) (hI : Inv R w) (v : Value) (xs : List Int) (hv : FreeI R w v xs) (hn : xs.length ≤ 4194304) (root lone : Int) :
    Calls Try.prog 41 #[v, .int .i64 root, .int .i64 lone] w fun e w' => ∃ q c, e = .returned (.tuple #[q, .int .i64 c]) ∧ NewPost R w xs root lone (.returned (.tuple #[q, .int .i64 c])) w' := by
  refine (new_any R w hI v xs hv hn root lone).mono ?_
  rintro e w' (⟨h1, rfl, h2⟩ | ⟨h1, S, p, R', h2, h3, h4, rfl, h5, h6⟩)
  · exact ⟨_, _, rfl, Or.inl ⟨h1, rfl, h2⟩⟩
  · exact ⟨_, _, rfl, Or.inr ⟨h1, S, p, R', h2, h3, h4, rfl, h5, h6⟩⟩
theorem NewPost.ev {R : Reg} {w w' : World} {xs : List Int} {root lone : Int} {e : Ending} (k : NewPost R w xs root lone e w') : ∃ R', Ev R w R' w' := by
  rcases k with ⟨h1, rfl, R', h2⟩ | ⟨h1, S, p, R', h2, h3, h4, rfl, h5, h6⟩
  · exact ⟨R', h2⟩
  · exact ⟨R', h5⟩
theorem NewPost.two {R : Reg} {w w' : World} {xs : List Int} {root lone : Int} {e : Ending} (k : NewPost R w xs root lone e w') : ∃ q c, e = .returned (.tuple #[q, .int .i64 c]) := by
  rcases k with ⟨h1, rfl, R', h2⟩ | ⟨h1, S, p, R', h2, h3, h4, rfl, h5, h6⟩
  · exact ⟨_, _, rfl⟩
  · exact ⟨_, _, rfl⟩
theorem NewPost.from {R0 R : Reg} {w0 w w' : World} {xs : List Int} {root lone : Int} {e : Ending} (h : Ev R0 w0 R w) (k : NewPost R w xs root lone e w') : NewPost R0 w0 xs root lone e w' := by
  rcases k with ⟨h1, rfl, R', h2⟩ | ⟨h1, S, p, R', h2, h3, h4, rfl, h5, h6⟩
  · exact Or.inl ⟨h1, rfl, R', h.trans h2⟩
  · exact Or.inr ⟨h1, S, p, R', h2, h3, h4, rfl, h.trans h5, h6⟩

set_option maxRecDepth 100000 in
set_option maxHeartbeats 2000000 in
theorem gdone_any {R0 R : Reg} {w0 w : World} {b : Nat} {p : Value} {L s : List Nat} (h : DraftAt R0 w0 R w b p L) (root lone : Int) (hp : MapAt R p s root lone) (hn : L.length ≤ 4000000) :
    Calls Try.prog 58 #[.pointer (some ⟨b, 0, none⟩)] w (NewPost R0 w0 (toI L) root lone) := by
  obtain ⟨a, cap, h1, h2, h3⟩ := h.ex
  obtain ⟨n, hln⟩ : ∃ n, L.length = n := ⟨_, rfl⟩
  rw [hln] at h1 h2 h3 hn
  obtain ⟨c0, c1, hf⟩ := draft_cells h1
  have HI := Lib.hid h.ev.inv
  have HRt := Lib.hid (fun R' w' (he : Ev R w R' w') => root_any R' w' he.inv p s root lone (he.map hp))
  have HLo := Lib.hid (fun R' w' (he : Ev R w R' w') => lone_any R' w' he.inv p s root lone (he.map hp))
  have HNw := Lib.hid (fun R' w' (he : Ev R w R' w') => new_two R' w' he.inv _ (toI L) (h2.free.ev he) (by rw [toI_length, hln]; omega) root lone)
  have HEv := Lib.hid h.ev
  have HC := Lib.hid (fun R' w' (he : Ev R w R' w') => (show w'.cell? ⟨b, 0, none⟩ = some p ∧ w'.cell? ⟨b, 1, none⟩ = some (.slice a n cap) from by
    have hb : R b = none := h.nb
    have hl := lt_of_block h1
    exact ⟨(he.cell hl hb).trans c0, (he.cell hl hb).trans c1⟩))
  have HEd := Lib.hid ((Ev.refl HI.out).drew)
  obtain ⟨c0, c1⟩ := HC.out _ _ HEd.out
  clear h h1 h2 h3 hf hln
  go_enter Try.func58, Try.ntmps58
  go_wp2_with fail
  go_region_held3 (fun w' => w'.cell? ⟨b, 0, none⟩ = some p ∧ w'.cell? ⟨b, 1, none⟩ = some (.slice a n cap)) (exact ⟨c0, c1⟩) (first | (go_at_call 18; refine (HRt.out _ _ HEd.out).mono ?_; rintro e w' ⟨rfl, rfl⟩) | (go_at_call 23; refine (HLo.out _ _ HEd.out).mono ?_; rintro e w' ⟨rfl, rfl⟩) | (go_at_call 41; refine (HNw.out _ _ HEd.out).mono ?_; rintro e w2 ⟨q, c, rfl, hpo⟩; obtain ⟨R2, he2⟩ := NewPost.ev hpo; have HPo := Lib.hid (NewPost.from (HEv.out.trans HEd.out) hpo); obtain ⟨c0, c1⟩ := HC.out _ _ (HEd.out.trans he2); clear hpo he2))
  all_goals (go_wp2_with fail)
  all_goals go_ret2
  all_goals exact HPo.out
end Go.Proofs.Ytlbhmonpfchocaa

namespace Go.Proofs.Ytlbhmonpfchocaa
open Go.RowKit
set_option linter.unusedVariables false

/-- what a way to grow ends with: out of range; not in the domain; the new map, or why there is none -/
def WayPost (R : Reg) (w : World) (rng dom : Bool) (L : List Nat) (root lone : Int) (e : Ending) (w' : World) : Prop :=
  (rng = false ∧ e = .returned (.tuple #[.pointer none, .int .i64 1]) ∧ ∃ R', Ev R w R' w') ∨
  (rng = true ∧ dom = false ∧ e = .returned (.tuple #[.pointer none, .int .i64 8]) ∧ ∃ R', Ev R w R' w') ∨
  (rng = true ∧ dom = true ∧ NewPost R w (toI L) root lone e w')
def inR (n : Nat) (d : Int) : Bool := decide (0 ≤ d ∧ d < n)
theorem inAll_one (n : Nat) (d : Int) : inAll n [d] = inR n d := by simp [inAll, inR]
theorem inAll_two (n : Nat) (d e : Int) : inAll n [d, e] = (inR n d && inR n e) := by simp [inAll, inR]
theorem inR_nat {n : Nat} {d : Int} (h : inR n d = true) : ∃ k : Nat, d = (k : Int) ∧ k < n := by
  unfold inR at h
  have := of_decide_eq_true h
  exact ⟨d.toNat, by omega, by omega⟩

def leafL (s : List Nat) (d : Nat) : List Nat := behindL (s ++ [s.length, s.length + 1]) s.length d
def chordL (s : List Nat) (d e : Nat) : List Nat := behindL (leafL s d) (s.length + 1) (if d = e then s.length else e)
theorem behindL_length (L : List Nat) (d t : Nat) : (behindL L d t).length = L.length := by simp [behindL]
theorem leafL_length (s : List Nat) (d : Nat) : (leafL s d).length = s.length + 2 := by simp [leafL, behindL_length]

theorem FreeI.one {R : Reg} {w : World} (hI : Inv R w) (x : Int) : FreeI R (w.alloc (.cells #[.int .i64 x] 3)) (.slice (some ⟨w.heap.size, 0, none⟩) 1 1) [x] :=
  ⟨Ints.alone w x, Or.inr ⟨w.heap.size, 0, 1, 1, rfl, hI.none_of_ge (Nat.le_refl _)⟩⟩

/-- of, as it is called with one dart, and with two -/
theorem gof_one (R : Reg) (w : World) (hI : Inv R w) (p : Value) (s : List Nat) (root lone : Int) (hp : MapAt R p s root lone) (d : Int) :
    Calls Try.prog 53 #[p, .slice (some ⟨w.heap.size, 0, none⟩) 1 1] (w.alloc (.cells #[.int .i64 d] 3)) fun e w' =>
      (inR s.length d = false ∧ e = .returned (.tuple #[.pointer none, .int .i64 1]) ∧ Ev R w R w') ∨
      (inR s.length d = true ∧ ∃ b, e = .returned (.tuple #[.pointer (some ⟨b, 0, none⟩), .int .i64 0]) ∧ DraftAt R w R w' b p s) := by
  have he := (Ev.refl hI).alloc (.cells #[.int .i64 d] 3)
  refine (gof_any R _ he.inv p s root lone (he.map hp) _ [d] (FreeI.one hI d) (by simp)).mono ?_
  rintro e w' (⟨h1, rfl, rfl⟩ | ⟨h1, b, rfl, h⟩)
  · exact Or.inl ⟨by rw [← inAll_one]; exact h1, rfl, he⟩
  · exact Or.inr ⟨by rw [← inAll_one]; exact h1, b, rfl, h.older he⟩
theorem gof_two (R : Reg) (w : World) (hI : Inv R w) (p : Value) (s : List Nat) (root lone : Int) (hp : MapAt R p s root lone) (d d' : Int) :
    Calls Try.prog 53 #[p, .slice (some ⟨w.heap.size, 0, none⟩) 2 2] (w.alloc (.cells #[.int .i64 d, .int .i64 d'] 3)) fun e w' =>
      ((inR s.length d && inR s.length d') = false ∧ e = .returned (.tuple #[.pointer none, .int .i64 1]) ∧ Ev R w R w') ∨
      ((inR s.length d && inR s.length d') = true ∧ ∃ b, e = .returned (.tuple #[.pointer (some ⟨b, 0, none⟩), .int .i64 0]) ∧ DraftAt R w R w' b p s) := by
  have he := (Ev.refl hI).alloc (.cells #[.int .i64 d, .int .i64 d'] 3)
  refine (gof_any R _ he.inv p s root lone (he.map hp) _ [d, d'] (FreeI.two hI d d') (by simp)).mono ?_
  rintro e w' (⟨h1, rfl, rfl⟩ | ⟨h1, b, rfl, h⟩)
  · exact Or.inl ⟨by rw [← inAll_two]; exact h1, rfl, he⟩
  · exact Or.inr ⟨by rw [← inAll_two]; exact h1, b, rfl, h.older he⟩

set_option maxRecDepth 100000 in
set_option maxHeartbeats 2000000 in
theorem leaf_any (R : Reg) (w : World) (hI : Inv R w) (p : Value) (s : List Nat) (root lone : Int) (hp : MapAt R p s root lone) (d : Int) :
    Calls Try.prog 49 #[p, .int .i64 d] w (WayPost R w (inR s.length d) true (leafL s d.toNat) root lone) := by
  have hn : s.length ≤ 131073 := (hp.ok hI).2.2.1
  have HOf := Lib.hid (gof_one R w hI p s root lone hp d)
  have HP := Lib.hid hp
  have hll := leafL_length s d.toNat
  clear hI hp
  go_enter Try.func49, Try.ntmps49
  go_wp2_with fail
  refine HOf.out.mono ?_
  rintro e w1 (⟨h1, rfl, he⟩ | ⟨h1, b, rfl, hd⟩)
  · have HE := Lib.hid he
    have H1 := Lib.hid h1
    clear he h1
    go_wp2_with fail
    go_ret2
    exact Or.inl ⟨H1.out, rfl, R, HE.out⟩
  · obtain ⟨k, rfl, hk⟩ := inR_nat h1
    have HD1 := Lib.hid hd
    have H1 := Lib.hid h1
    rw [Int.toNat_natCast] at hll ⊢
    clear hd h1 HOf
    go_wp2_with fail
    refine (gedge_any HD1.out (by omega)).mono ?_
    rintro e w2 ⟨rfl, hd2⟩
    have HD2 := Lib.hid hd2
    have hb := gbehind_any hd2 (d := s.length) (t := k) (by simp; omega) (by simp) (by simp; omega)
    have HB := Lib.hid hb
    clear hd2 hb
    go_wp2_with fail
    refine HB.out.mono ?_
    rintro e w3 ⟨rfl, hd3⟩
    have HD3 := Lib.hid hd3
    have HDn := Lib.hid (gdone_any hd3 root lone (hd3.ev.map HP.out) (by show (leafL s k).length ≤ _; omega))
    clear hd3 HB
    go_wp2_with fail
    refine HDn.out.mono ?_
    rintro e w4 hpo
    have hpo2 : NewPost R w (toI (leafL s k)) root lone e w4 := hpo
    obtain ⟨q, c, rfl⟩ := hpo2.two
    have HPo := Lib.hid hpo2
    clear hpo hpo2 HDn
    go_wp2_with fail
    go_ret2
    exact Or.inr (Or.inr ⟨H1.out, rfl, HPo.out⟩)

set_option maxRecDepth 100000 in
set_option maxHeartbeats 2000000 in
theorem chord_any (R : Reg) (w : World) (hI : Inv R w) (p : Value) (s : List Nat) (root lone : Int) (hp : MapAt R p s root lone) (d d' : Int) :
    Calls Try.prog 15 #[p, .int .i64 d, .int .i64 d'] w (WayPost R w (inR s.length d && inR s.length d') (decide (nameI (phiL s) (atI s d) = nameI (phiL s) (atI s d'))) (chordL s d.toNat d'.toNat) root lone) := by
  have hn : s.length ≤ 131073 := (hp.ok hI).2.2.1
  have HOf := Lib.hid (gof_two R w hI p s root lone hp d d')
  have HP := Lib.hid hp
  have HSg := Lib.hid (fun R' w' (h : Ev R w R' w') d => sigma_any R' w' h.inv p s root lone (h.map hp) d)
  have HFc := Lib.hid (fun R' w' (h : Ev R w R' w') d => face_any R' w' h.inv p s root lone (h.map hp) d)
  obtain ⟨f1, hf1⟩ : ∃ x, nameI (phiL s) (atI s d) = x := ⟨_, rfl⟩
  obtain ⟨f2, hf2⟩ : ∃ x, nameI (phiL s) (atI s d') = x := ⟨_, rfl⟩
  rw [hf1, hf2]
  have HF1 := Lib.hid hf1
  have HF2 := Lib.hid hf2
  clear hI hp hf1 hf2
  go_enter Try.func15, Try.ntmps15
  go_wp2_with fail
  refine HOf.out.mono ?_
  rintro e w1 (⟨h1, rfl, he⟩ | ⟨h1, b, rfl, hd⟩)
  · have HE := Lib.hid he
    have H1 := Lib.hid h1
    clear he h1
    go_wp2_with fail
    go_ret2
    exact Or.inl ⟨H1.out, rfl, R, HE.out⟩
  · have HD1 := Lib.hid hd
    have H1 := Lib.hid h1
    clear hd h1 HOf
    go_wp2_with fail
    refine (HSg.out _ _ HD1.out.ev d).mono ?_
    rintro e w' ⟨rfl, rfl⟩
    go_wp2_with fail
    refine (HFc.out _ _ HD1.out.ev _).mono ?_
    rintro e w2 ⟨rfl, R2, he2⟩
    have HD2 := Lib.hid (HD1.out.step he2)
    rw [HF1.out]
    clear he2
    go_wp2_with fail
    refine (HSg.out _ _ HD2.out.ev d').mono ?_
    rintro e w' ⟨rfl, rfl⟩
    go_wp2_with fail
    refine (HFc.out _ _ HD2.out.ev _).mono ?_
    rintro e w3 ⟨rfl, R3, he3⟩
    have HD3 := Lib.hid (HD2.out.step he3)
    rw [HF2.out]
    clear he3 HD1 HD2
    by_cases hff : f1 = f2
    · subst hff
      have hbn : (f1 != f1) = false := by simp
      obtain ⟨hr1, hr2⟩ := Bool.and_eq_true_iff.1 H1.out
      obtain ⟨k, rfl, hk⟩ := inR_nat hr1
      obtain ⟨k', rfl, hk'⟩ := inR_nat hr2
      have hll := leafL_length s k
      clear hr1 hr2
      go_wp2_with fail
      refine (gedge_any HD3.out (by omega)).mono ?_
      rintro e w4 ⟨rfl, hd4⟩
      have HD4 := Lib.hid hd4
      have HB := Lib.hid (gbehind_any hd4 (d := s.length) (t := k) (by simp; omega) (by simp) (by simp; omega))
      have hw1 : IntKind.i64.wrap ((s.length : Int) + 1) = ((s.length + 1 : Nat) : Int) := by rw [show (s.length : Int) + 1 = ((s.length + 1 : Nat) : Int) by omega]; exact IntWalk.i64_in _ (by omega)
      clear hd4
      go_wp2_with fail
      refine HB.out.mono ?_
      rintro e w5 ⟨rfl, hd5⟩
      have hd5' : DraftAt R w R3 w5 b p (leafL s k) := hd5
      have HD5 := Lib.hid hd5'
      clear hd5 hd5' HB
      by_cases hkk : k = k'
      · subst hkk
        have hbe : ((k : Int) == (k : Int)) = true := by simp
        have HB := Lib.hid (gbehind_any HD5.out (d := s.length + 1) (t := s.length) (by omega) (by omega) (by omega))
        have hcl : behindL (leafL s k) (s.length + 1) s.length = chordL s k k := by unfold chordL; rw [if_pos rfl]
        rw [hcl] at HB
        have hcn : (chordL s k k).length = s.length + 2 := by unfold chordL; rw [behindL_length]; exact hll
        have HCn := Lib.hid hcn
        clear hcl hcn
        go_wp2_with fail
        refine HB.out.mono ?_
        rintro e w6 ⟨rfl, hd6⟩
        have HDn := Lib.hid (gdone_any hd6 root lone (hd6.ev.map HP.out) (by have := HCn.out; omega))
        clear hd6 HB
        go_wp2_with fail
        refine HDn.out.mono ?_
        rintro e w7 hpo
        obtain ⟨q, c, rfl⟩ := hpo.two
        have HPo := Lib.hid hpo
        clear hpo HDn
        go_wp2_with fail
        go_ret2
        exact Or.inr (Or.inr ⟨H1.out, by simp, HPo.out⟩)
      · have hbe : ((k : Int) == (k' : Int)) = false := by simp; omega
        have HB := Lib.hid (gbehind_any HD5.out (d := s.length + 1) (t := k') (by omega) (by omega) (by omega))
        have hcl : behindL (leafL s k) (s.length + 1) k' = chordL s k k' := by unfold chordL; rw [if_neg hkk]
        rw [hcl] at HB
        have hcn : (chordL s k k').length = s.length + 2 := by unfold chordL; rw [behindL_length]; exact hll
        have HCn := Lib.hid hcn
        clear hcl hcn
        go_wp2_with fail
        refine HB.out.mono ?_
        rintro e w6 ⟨rfl, hd6⟩
        have HDn := Lib.hid (gdone_any hd6 root lone (hd6.ev.map HP.out) (by have := HCn.out; omega))
        clear hd6 HB
        go_wp2_with fail
        refine HDn.out.mono ?_
        rintro e w7 hpo
        obtain ⟨q, c, rfl⟩ := hpo.two
        have HPo := Lib.hid hpo
        clear hpo HDn
        go_wp2_with fail
        go_ret2
        exact Or.inr (Or.inr ⟨H1.out, by simp, HPo.out⟩)
    · have hbn : (f1 != f2) = true := by simp [hff]
      go_wp2_with fail
      go_ret2
      exact Or.inr (Or.inl ⟨H1.out, by simp [hff], rfl, R3, HD3.out.ev⟩)
end Go.Proofs.Ytlbhmonpfchocaa
