/- parquetryref11.Names: the document's canonical names. Conditions: the map's list lies in memory. parquetryref11.Canon: the document's canonical map. Conditions: the map's list lies in memory. parquetryref11.Names, Canon, of any map. Conditions: the map's list lies in memory. A map of one part has one canonical map, by whatever names its darts go. Conditions: none. -/
import Derived.Test.YtlbhmonpfchocaaZCanonOnce26
import Derived.Test.YtlbhmonpfchocaaZCanonOnce23
import Derived.StillTailTactics
namespace Go.Proofs.Ytlbhmonpfchocaa
open Go.RowKit Go.Maps
set_option linter.unusedVariables false

/-- a map's box, later on -/
theorem Ev.boxC3 {R R' : Reg} {w0 w' : World} {b : Nat} {x y z : Value} {T : TypeId} (hb : w0.heap[b]? = some (.cells #[x, y, z] T (0, 0))) (hn : R b = none) (h : Ev R w0 R' w') :
    w'.heap[b]? = some (.cells #[x, y, z] T (0, 0)) ∧ R' b = none := ⟨(h.block b (lt_of_block hb) hn).trans hb, h.free b (lt_of_block hb) hn⟩
theorem boxC_cells {w : World} {b : Nat} {x y z : Value} {T : TypeId} (hb : w.heap[b]? = some (.cells #[x, y, z] T (0, 0))) : w.cell? ⟨b, 0, none⟩ = some x ∧ w.cell? ⟨b, 1, none⟩ = some y ∧ w.cell? ⟨b, 2, none⟩ = some z ∧ ∀ o, w.frozen? ⟨b, o, none⟩ = false :=
  ⟨cells_at hb 0, cells_at hb 1, cells_at hb 2, fun o => by simp [World.frozen?, hb]⟩
/-- the names so far, as a map -/
def nmO (F : List Nat) (k : Int) : Option Int := if 0 ≤ k ∧ hasE F k.toNat = true then some ((nmF F k.toNat : Nat) : Int) else none
theorem nmO_nat (F : List Nat) (d : Nat) : nmO F (d : Int) = if hasE F d = true then some ((nmF F d : Nat) : Int) else none := by
  unfold nmO
  rw [Int.toNat_natCast]
  by_cases h : hasE F d = true
  · rw [if_pos ⟨by omega, h⟩, if_pos h]
  · rw [if_neg (fun k => h k.2), if_neg h]
theorem nmO_nil : nmO [] = fun _ => none := by
  funext k
  unfold nmO
  rw [if_neg (fun h => by simp [hasE] at h)]
theorem nmO_add {n : Nat} {F : List Nat} (h : FOk n F) {d : Nat} (hd : d < n) (hno : hasE F d = false) : updF (updF (nmO F) (d : Int) ((2 * F.length : Nat) : Int)) ((d ^^^ 1 : Nat) : Int) ((2 * F.length + 1 : Nat) : Int) = nmO (F ++ [d]) := by
  have hno' : ¬ hasE F d = true := by rw [hno]; simp
  have hadd : fstAdd F d = F ++ [d] := by unfold fstAdd; rw [if_neg hno']
  have hok : FOk n (F ++ [d]) := by rw [← hadd]; exact h.add hd
  have hlen : F.length < (F ++ [d]).length := by simp
  have hhas : ∀ x, hasE (F ++ [d]) x = true ↔ hasE F x = true ∨ d / 2 = x / 2 := fun x => by rw [← hadd]; exact hasE_add
  funext k
  unfold updF
  try dsimp only
  by_cases e1 : k = ((d ^^^ 1 : Nat) : Int)
  · rw [if_pos e1, e1, nmO_nat, if_pos ((hhas _).2 (Or.inr (by rw [xor_one_div])))]
    have := nm_mate hok hlen
    rw [at_app_last] at this
    rw [this]
  · rw [if_neg e1]
    by_cases e2 : k = (d : Int)
    · rw [if_pos e2, e2, nmO_nat, if_pos ((hhas _).2 (Or.inr rfl))]
      have := nm_at hok hlen
      rw [at_app_last] at this
      rw [this]
    · rw [if_neg e2]
      by_cases hk : 0 ≤ k
      · obtain ⟨x, rfl⟩ : ∃ x : Nat, k = (x : Int) := ⟨k.toNat, by omega⟩
        have e3 : ¬ d / 2 = x / 2 := fun e => (half_eq e).elim (fun k => e2 (by rw [k])) fun k => e1 (by rw [k, xor_one_one])
        rw [nmO_nat, nmO_nat]
        by_cases hF : hasE F x = true
        · rw [if_pos hF, if_pos ((hhas x).2 (Or.inl hF))]
          obtain ⟨i, hi, k⟩ := nm_cases h hF
          have hi' : i < (F ++ [d]).length := by simp; omega
          have m1 := nm_at hok hi'
          have m2 := nm_mate hok hi'
          rw [at_app hi] at m1 m2
          rcases k with ⟨k1, k2⟩ | ⟨k1, k2⟩
          · rw [k2, k1, m1]
          · rw [k2, k1, m2]
        · rw [if_neg hF, if_neg (fun k => ((hhas x).1 k).elim hF e3)]
      · unfold nmO
        rw [if_neg (fun h => hk h.1), if_neg (fun h => hk h.1)]
theorem nmO_mate {F : List Nat} {d : Nat} (hno : hasE F d = false) (u : Int) : updF (nmO F) (d : Int) u ((d ^^^ 1 : Nat) : Int) = none := by
  rw [updF_other _ _ _ (by have := xor_one_ne d; omega), nmO_nat, if_neg]
  intro h
  have : hasE F d = true := by
    obtain ⟨i, hi, e⟩ := hasE_iff.1 h
    exact hasE_iff.2 ⟨i, hi, by rw [e, xor_one_div]⟩
  rw [this] at hno
  cases hno
/-- is a dart the first of another part, as far as it was looked? -/
def fB (N : List Int) (r i j : Nat) : Bool := !decide (nth N i = nth N r) && (List.range j).all fun x => !decide (nth N x = nth N i)
theorem fB_zero (N : List Int) (r i : Nat) : fB N r i 0 = !decide (nth N i = nth N r) := by simp [fB]
theorem fB_succ (N : List Int) (r i j : Nat) : fB N r i (j + 1) = (fB N r i j && !decide (nth N j = nth N i)) := by
  unfold fB
  rw [List.range_succ, List.all_append, Bool.and_assoc]
  simp
theorem fB_all (N : List Int) (r i : Nat) : fB N r i i = firstB N r i := rfl
/-- told so far -/
def outTo (n : Nat) (F : List Nat) (i : Nat) : List Int := (List.range n).map fun x => if x < i then ((nmF F x : Nat) : Int) else 0
theorem outTo_length (n : Nat) (F : List Nat) (i : Nat) : (outTo n F i).length = n := by simp [outTo]
theorem outTo_zero (n : Nat) (F : List Nat) : outTo n F 0 = List.replicate n 0 := by
  refine List.ext_getElem (by simp [outTo]) fun i h1 h2 => ?_
  simp [outTo]
theorem outTo_set {n : Nat} {F : List Nat} {i : Nat} : (outTo n F i).set i ((nmF F i : Nat) : Int) = outTo n F (i + 1) := by
  refine List.ext_getElem (by simp [outTo]) fun j h1 h2 => ?_
  rw [List.getElem_set]
  simp only [outTo, List.getElem_map, List.getElem_range]
  by_cases e : i = j
  · subst e; rw [if_pos rfl, if_pos (by omega)]
  · rw [if_neg e]
    by_cases h : j < i
    · rw [if_pos h, if_pos (by omega)]
    · rw [if_neg h, if_neg (by omega)]
theorem outTo_all (n : Nat) (F : List Nat) : outTo n F n = toI (canP n F) := by
  unfold outTo canP toI
  rw [List.map_map]
  refine List.map_congr_left fun j hj => ?_
  rw [if_pos (List.mem_range.1 hj)]
  rfl

set_option maxRecDepth 100000 in
set_option maxHeartbeats 4000000 in
theorem r11names_some (R : Reg) (w : World) (hI : Inv R w) (v : Value) (s : List Nat) (root : Nat) (lone : Int) (hv : FreeI R w v (toI s)) (hS : IsPerm s) (hn : s.length ≤ 131072) (he : s.length % 2 = 0) (hr : root < s.length) :
    Calls Try.prog 38 #[refV v root lone] w (RetOwn R w (toI (canL s root))) := by
  obtain ⟨a0, cap0, rfl, hv0⟩ := hv.open
  rw [toI_length] at hv hv0 ⊢
  have HNm := Lib.hid (fun w' (hee : Ev R w R w') => r8names_any R w' hee.inv _ s root lone (hv.ev hee) hS (by omega) he)
  have HWk := Lib.hid (fun w' (hee : Ev R w R w') r (hr : r < s.length) => rwalk_any R w' hee.inv _ s root lone (hv.ev hee) hS (by omega) he r hr)
  have hpl := partsL_length hS he
  have HLt := Lib.hid (rootsL_lt hr)
  have HWl := Lib.hid (fun r (hr : r < s.length) x (hx : x ∈ walkD s r) => (Con.per hS).cod ((mem_walkD hS he hr).1 hx))
  have e0 : canF s root = fstL [] ((rootsL s root).flatMap (walkD s)) := by
    unfold canF canD
    rw [if_neg (by omega)]
  have hnl := canF_length (canF_ok hS he hr) he (canF_all hS he hr)
  have HAl := Lib.hid (canF_all hS he hr)
  have hres : toI (canL s root) = outTo s.length (canF s root) s.length := (outTo_all _ _).symm
  rw [hres]
  obtain ⟨G, hG⟩ : ∃ G, canF s root = G := ⟨_, rfl⟩
  rw [hG] at hnl HAl e0 ⊢
  have HG := Lib.hid e0
  obtain ⟨n, hnn⟩ : ∃ n, s.length = n := ⟨_, rfl⟩
  obtain ⟨N, hN⟩ : ∃ N, partsL s = N := ⟨_, rfl⟩
  have hrt : rootsL s root = root :: restTo N root n := by unfold rootsL; rw [hN, hnn]
  rw [hrt] at HLt HG
  rw [hN] at HNm hpl
  rw [hnn] at HNm HWk hpl HLt HWl HAl hnl hn he hr hv hv0 ⊢
  have HNn := Lib.hid hnn
  have HPl := Lib.hid hpl
  have HNl := Lib.hid hnl
  have HEv := Lib.hid he
  have HRl : Hid (∀ i, (restTo N root i).length ≤ i) := Lib.hid (fun i => by
    unfold restTo
    have := List.length_filter_le (firstB N root) (List.range i)
    rwa [List.length_range] at this)
  unfold refV at HNm HWk
  unfold refV
  have he1 : Ev R w R (w.alloc (.cells #[.slice a0 n cap0, .int .i64 root, .int .i64 lone] 34)) := (Ev.refl hI).alloc _
  have hn1 : R w.heap.size = none := hI.none_of_ge (Nat.le_refl _)
  have HB1 := Lib.hid (fun w' (h : Ev R (w.alloc (.cells #[.slice a0 n cap0, .int .i64 root, .int .i64 lone] 34)) R w') => h.boxC3 (heap_alloc_new w _) hn1)
  have hmm := @run_makeMap Try.prog
  obtain ⟨wa, hwa⟩ : ∃ wa, wa = w.alloc (.cells #[.slice a0 n cap0, .int .i64 root, .int .i64 lone] 34) := ⟨_, rfl⟩
  have HWa := Lib.hid hwa
  have HEa : Hid (Ev R w R wa) := Lib.hid (by rw [hwa]; exact he1)
  have HM0 : Hid (FMap R (wa.alloc (.map #[] 0)) wa.heap.size 0 (fun _ => none) 0) := Lib.hid (FMap.made HEa.out.inv)
  have HEm := Lib.hid ((Ev.refl HEa.out.inv).alloc (.map #[] 0))
  rw [← hwa] at HB1
  obtain ⟨x0, x1, x2, _⟩ := boxC_cells (HB1.out _ HEm.out).1
  have hwz : wa.heap.size = w.heap.size + 1 := by rw [hwa]; simp
  clear hI hv hv0 hS hnn hN he1 hn1 e0 hG hpl hnl he hres hrt
  go_enter Try.func38, Try.ntmps38
  go_upto_region 2 with fail
  rw [← hwa] 
  rw [← hwz]
  clear hwa hwz
  go_wp2_with fail
  refine (HNm.out _ (HEa.out.trans HEm.out)).mono ?_
  rintro z w2 ⟨v2, rfl, he2, ho2⟩
  obtain ⟨aN, cN, rfl, _⟩ := ho2.ints.open
  rw [HPl.out] at ho2 ⊢
  obtain ⟨gN, rfl, _, _, kr, _⟩ := ho2.headAt HPl.out hr
  obtain ⟨b, hb⟩ : ∃ b, wa.heap.size = b := ⟨_, rfl⟩
  have HBw := Lib.hid (show wa.heap.size ≤ b by omega)
  rw [hb] at HM0 ⊢
  have HE2 := Lib.hid (HEm.out.trans he2)
  have HM2 := Lib.hid (HM0.out.ev he2)
  have HN2 := Lib.hid ho2
  have hbz : b < w2.heap.size := HM2.out.lt
  obtain ⟨x0, x1, x2, _⟩ := boxC_cells (HB1.out _ HE2.out).1
  have HEb := Lib.hid ((Ev.refl HE2.out.inv).alloc (.cells #[.int .i64 (root : Int)] 3))
  have hnp : ¬ (n : Int) ≤ 0 := by omega
  have hnp2 : 0 < n := by omega
  clear he2 ho2 hmm hb HM0
  go_wp2_with (at_builtin; refine wpList_app_int (R := R) (B := w2.heap.size) rfl _ _ rfl (OwnI.nil R w2.heap.size 3 (w2.alloc (.cells #[.int .i64 (root : Int)] 3))) rfl ⟨w2.heap.size, 0, none⟩ 1 (root : Int) ?a0 ?a1 ?a2 ?a3 ?a4 ?_)
  case a0 => first | rfl | simp
  case a1 => first | rfl | simp
  case a2 => simp
  case a3 => simp
  case a4 => exact fun q hq => HEb.out.inv.none_of_ge (by first | exact hq | (simp at hq ⊢; omega))
  intro v3 w3 ho3 hg3 hs3
  obtain ⟨a3, c3, rfl, _⟩ := ho3.ints.open
  have HE3 := Lib.hid (HEb.out.app (OwnI.nil R w2.heap.size 3 (w2.alloc (.cells #[.int .i64 (root : Int)] 3))) (Nat.le_refl _) hg3)
  have HO3 := Lib.hid (show OwnI R w2.heap.size 3 w3 (.slice a3 1 c3) (toI (root :: restTo N root 0)) from ho3)
  rw [show ([(root : Int)] : List Int).length = 1 from rfl]
  clear ho3 hg3 hs3 x0 x1 x2 kr HEb
  go_wp2_with fail
  obtain ⟨w3', hw3'⟩ : ∃ x, x = w3 := ⟨_, rfl⟩
  go_loopg [5, 35] n (fun g v5 v35 wr => ∃ (i : Nat) (a : Option Addr) (l c : Nat), i ≤ n ∧ n - i ≤ g ∧ v35 = .int .i64 (i : Int) ∧ v5 = .slice a l c ∧ l = (restTo N root i).length + 1 ∧ Ev R w2 R wr ∧ OwnI R w2.heap.size 3 wr (.slice a l c) (toI (root :: restTo N root i)))
  case atStart => exact ⟨0, a3, 1, c3, Nat.zero_le _, by omega, rfl, rfl, rfl, HE3.out, HO3.out⟩
  case round =>
    obtain ⟨i, a, l, c, hi, hg, rfl, rfl, hl, hev, ho⟩ := hrel
    have HE := Lib.hid hev
    have HO := Lib.hid ho
    have HL := Lib.hid hl
    clear hev ho hl
    by_cases hin : i < n
    · have hlb := HRl.out i
      have hrs := restTo_succ N root i
      rw [← fB_all] at hrs
      obtain ⟨x0, x1, x2, _⟩ := boxC_cells (HB1.out _ (HE2.out.trans HE.out)).1
      have hNn := HN2.out.ev HE.out
      obtain ⟨_, e1, _, _, ki, _⟩ := hNn.headAt HPl.out hin
      cases e1
      obtain ⟨_, e1, _, _, kr, _⟩ := hNn.headAt HPl.out hr
      cases e1
      have HNr := Lib.hid hNn
      obtain ⟨y, hy⟩ : ∃ y, nth N i = y := ⟨_, rfl⟩
      obtain ⟨y0, hy0⟩ : ∃ y, nth N root = y := ⟨_, rfl⟩
      rw [hy] at ki
      rw [hy0] at kr
      have hb0 : (y != y0) = fB N root i 0 := by rw [fB_zero, hy, hy0]; rfl
      have HY := Lib.hid hy
      obtain ⟨B0, hB0⟩ : ∃ B, fB N root i 0 = B := ⟨_, rfl⟩
      rw [hB0] at hb0
      have HB0 := Lib.hid hB0
      have HRs := Lib.hid hrs
      clear hNn hy hy0 hB0 hrs
      go_wp2_with fail
      obtain ⟨w4, hw4⟩ : ∃ w4, w4 = wr := ⟨_, rfl⟩
      subst hw4
      go_loopg [8, 9] i (fun g v8 v9 wr => ∃ (j : Nat) (Bj : Bool), j ≤ i ∧ i - j ≤ g ∧ v9 = .int .i64 (j : Int) ∧ v8 = .bool Bj ∧ Bj = fB N root i j ∧ wr = w4)
      case atStart => exact ⟨0, B0, Nat.zero_le _, by omega, rfl, rfl, HB0.out.symm, rfl⟩
      case round =>
        obtain ⟨j, Bj, hj, hg2, rfl, rfl, hBj, rfl⟩ := hrel
        have hfs := fB_succ N root i j
        rw [← hBj] at hfs
        have HBj := Lib.hid hBj
        clear hBj
        by_cases hji : j < i
        · obtain ⟨_, e1, _, _, kj, _⟩ := HNr.out.headAt HPl.out (i := j) (by omega)
          cases e1
          rw [HY.out] at hfs
          obtain ⟨yj, hyj⟩ : ∃ y, nth N j = y := ⟨_, rfl⟩
          rw [hyj] at kj hfs
          clear hyj
          cases Bj
          · have HFs := Lib.hid (show false = fB N root i (j + 1) by rw [hfs]; rfl)
            clear hfs
            go_wp2_with fail
            go_roundg (i - (j + 1))
            case measure => omega
            case rel => exact ⟨j + 1, false, by omega, by omega, by go_num, rfl, HFs.out, rfl⟩
          · obtain ⟨Bn, hBn⟩ : ∃ B, (yj != y) = B := ⟨_, rfl⟩
            have HFs := Lib.hid (show Bn = fB N root i (j + 1) by rw [hfs, ← hBn]; rfl)
            clear hfs
            go_wp2_with fail
            go_roundg (i - (j + 1))
            case measure => omega
            case rel => exact ⟨j + 1, Bn, by omega, by omega, by go_num, rfl, HFs.out, rfl⟩
        · obtain rfl : j = i := by omega
          clear hfs
          cases Bj
          · have HRn := Lib.hid (show restTo N root (j + 1) = restTo N root j by rw [HRs.out, ← HBj.out]; rfl)
            clear ki kr x0 x1 x2
            go_wp2_with fail
            go_roundg (n - (j + 1))
            case measure => omega
            case rel => exact ⟨j + 1, a, l, c, by omega, by omega, by go_num, rfl, by rw [HRn.out]; exact HL.out, HE.out, by rw [HRn.out]; exact HO.out⟩
          · have HRn := Lib.hid (show restTo N root (j + 1) = restTo N root j ++ [j] by rw [HRs.out, ← HBj.out]; rfl)
            have HEa' := Lib.hid (HE.out.alloc (.cells #[.int .i64 (j : Int)] 3))
            have HOa' := Lib.hid (HO.out.alloc (.cells #[.int .i64 (j : Int)] 3))
            have hLl : Hid ((toI (root :: restTo N root j)).length = l) := Lib.hid (by rw [toI_length, List.length_cons, HL.out])
            clear ki kr x0 x1 x2
            go_wp2_with (at_builtin; refine wpList_app_int (R := R) (B := w2.heap.size) rfl _ _ rfl HOa'.out rfl ⟨wr.heap.size, 0, none⟩ 1 (j : Int) ?a0 ?a1 ?a2 ?a3 ?a4 ?_)
            case a0 => first | rfl | simp
            case a1 => first | rfl | simp
            case a2 => have := hLl.out; have := HL.out; omega
            case a3 => have := HEa'.out.size; first | exact this | (simp at this ⊢; omega)
            case a4 => exact fun q hq => HEa'.out.inv.none_of_ge (by first | exact hq | (simp at hq ⊢; omega))
            intro v8 w8 ho8 hg8 hs8
            obtain ⟨a8, c8, rfl, _⟩ := ho8.ints.open
            have hl8 : (toI (root :: restTo N root j) ++ [(j : Int)]).length = l + 1 := by rw [List.length_append, hLl.out]; rfl
            have hx8 : toI (root :: restTo N root j) ++ [(j : Int)] = toI (root :: restTo N root (j + 1)) := by rw [HRn.out]; simp [toI]
            rw [hl8] at ho8 ⊢
            rw [hx8] at ho8
            have HE8 := Lib.hid (HEa'.out.app HOa'.out (Nat.le_refl _) hg8)
            have HO8 := Lib.hid ho8
            clear ho8 hg8 hs8 hl8 hx8
            go_wp2_with fail
            go_roundg (n - (j + 1))
            case measure => omega
            case rel => exact ⟨j + 1, a8, l + 1, c8, by omega, by omega, by go_num, rfl, by rw [HRn.out, List.length_append, List.length_singleton, HL.out], HE8.out, HO8.out⟩
    · obtain rfl : i = n := by omega
      obtain ⟨rs, hrs⟩ : ∃ rs, root :: restTo N root i = rs := ⟨_, rfl⟩
      have hlr : rs.length = l := by rw [← hrs, List.length_cons, HL.out]
      have hLb : l ≤ i + 1 := by rw [HL.out]; have := HRl.out i; omega
      rw [hrs] at HO HLt HG
      have HLr := Lib.hid hlr
      obtain ⟨n, hni⟩ : ∃ n, n = i := ⟨_, rfl⟩
      subst hni
      have HMz : Hid (FMap R wr b 0 (nmO []) 0) := Lib.hid (by rw [nmO_nil]; exact HM2.out.ev HE.out)
      have HEz := Lib.hid (HE2.out.trans HE.out)
      obtain ⟨w5, hw5⟩ : ∃ w5, w5 = wr := ⟨_, rfl⟩
      subst hw5
      clear hlr hrs HM2 HN2 HE HL hin
      go_wp2_with fail
      go_loopg [69] l (fun g v69 wr => ∃ (k : Nat) (F : List Nat), k ≤ l ∧ l - k ≤ g ∧ v69 = .int .i64 (k : Int) ∧ F = fstL [] ((rs.take k).flatMap (walkD s)) ∧ FOk n F ∧ Ev R wa R wr ∧ FMap R wr b (2 * F.length) (nmO F) (2 * F.length) ∧ OwnI R w2.heap.size 3 wr (.slice a l c) (toI rs))
      case atStart => exact ⟨0, [], Nat.zero_le _, by omega, rfl, by simp [fstL], FOk.nil n, HEz.out, HMz.out, HO.out⟩
      case round =>
        obtain ⟨k, F, hk, hg, rfl, hF, hFok, hev, hm, hro⟩ := hrel
        have HFe := Lib.hid hF
        have HFk := Lib.hid hFok
        have HE := Lib.hid hev
        have HM := Lib.hid hm
        have HRo := Lib.hid hro
        clear hF hFok hev hm hro
        by_cases hkl : k < l
        · have hkr : k < rs.length := by rw [HLr.out]; exact hkl
          obtain ⟨gR, rfl, _, _, hc, _⟩ := HRo.out.headAt (by rw [toI_length, HLr.out]) hkl
          rw [toI_nth] at hc
          have hrm := HLt.out (at' rs k) (by rw [at'_eq hkr]; exact List.getElem_mem hkr)
          have hfl := fst_flat (s := s) hkr
          rw [← HFe.out] at hfl
          obtain ⟨r, hrr⟩ : ∃ r, at' rs k = r := ⟨_, rfl⟩
          rw [hrr] at hc hrm hfl
          have HFl := Lib.hid hfl
          have HWr := Lib.hid (HWk.out _ (HEa.out.trans HE.out) r hrm)
          have HPw := Lib.hid (walkD_length s r)
          have HWx := Lib.hid (HWl.out r hrm)
          have hwg := fun j (hj : j < partC' s r) => walkD_at (s := s) (r := r) hj
          have hdg : ∀ j, j < partC' s r → nth (dartsW s (sizesL s).length r (partC' s r)) j = ((wd s (sizesL s).length r j : Nat) : Int) := fun j hj => by simp [dartsW, nth, hj]
          have hdl := dartsW_length s (sizesL s).length r (partC' s r)
          have hkl2 := kindsW_length s (sizesL s).length r (partC' s r)
          have hPb : partC' s r ≤ n := by have := tally_le (Con s r) s.length; rw [HNn.out] at this; unfold partC'; rwa [HNn.out]
          obtain ⟨P, hP⟩ : ∃ P, partC' s r = P := ⟨_, rfl⟩
          rw [hP] at hPb HWr HPw hwg hdg hdl hkl2
          obtain ⟨DL, hDL⟩ : ∃ l, dartsW s (sizesL s).length r P = l := ⟨_, rfl⟩
          obtain ⟨KL, hKL⟩ : ∃ l, kindsW s (sizesL s).length r P = l := ⟨_, rfl⟩
          rw [hDL] at HWr hdg hdl
          rw [hKL] at HWr hkl2
          have HWg := Lib.hid hwg
          have HDg := Lib.hid hdg
          have HDl := Lib.hid hdl
          have HKl := Lib.hid hkl2
          obtain ⟨x0, x1, x2, _⟩ := boxC_cells (HB1.out _ HE.out).1
          clear hrr hfl hP hDL hKL hwg hdg hdl hkl2
          go_wp2_with fail
          refine HWr.out.mono ?_
          rintro z w6 ⟨aD, aK, cD, cK, rfl, he6, hd6, _⟩
          rw [HDl.out] at hd6 ⊢
          have HE6 := Lib.hid (HE.out.trans he6)
          have HM6 := Lib.hid (HM.out.ev he6)
          have HR6 := Lib.hid (HRo.out.ev he6)
          have HD6 := Lib.hid hd6
          have hbw : b < wr.heap.size := HM.out.lt
          obtain ⟨B3, hB3⟩ : ∃ B, wr.heap.size = B := ⟨_, rfl⟩
          rw [hB3] at HD6 hbw
          have HBw3 := Lib.hid hbw
          obtain ⟨w6', hw6⟩ : ∃ w6', w6' = w6 := ⟨_, rfl⟩
          subst hw6
          clear he6 hd6 hc hB3 hbw x0 x1 x2
          go_wp2_with fail
          go_loopg [81] P (fun g v81 wr => ∃ (j : Nat) (F' : List Nat), j ≤ P ∧ P - j ≤ g ∧ v81 = .int .i64 (j : Int) ∧ F' = fstL F ((walkD s r).take j) ∧ FOk n F' ∧ Ev R wa R wr ∧ FMap R wr b (2 * F'.length) (nmO F') (2 * F'.length) ∧ OwnI R w2.heap.size 3 wr (.slice (some ⟨gR, 0, none⟩) l c) (toI rs) ∧ OwnI R B3 3 wr (.slice aD P cD) DL)
          case atStart => exact ⟨0, F, Nat.zero_le _, by omega, rfl, rfl, HFk.out, HE6.out, HM6.out, HR6.out, HD6.out⟩
          case round =>
            obtain ⟨j, F', hj, hg2, rfl, hF, hFok, hev, hm, hro, hdo⟩ := hrel
            have HFe2 := Lib.hid hF
            have HFk2 := Lib.hid hFok
            have HE7 := Lib.hid hev
            have HM7 := Lib.hid hm
            have HR7 := Lib.hid hro
            have HD7 := Lib.hid hdo
            clear hF hFok hev hm hro hdo
            by_cases hjP : j < P
            · have hjw : j < (walkD s r).length := by rw [HPw.out]; exact hjP
              obtain ⟨gD, rfl, _, _, kd, _⟩ := HD7.out.headAt HDl.out hjP
              rw [HDg.out j hjP] at kd
              have hdn := HWx.out (at' (walkD s r) j) (by rw [at'_eq hjw]; exact List.getElem_mem hjw)
              have hft := fst_take (F := F) hjw
              rw [HWg.out j hjP] at hdn hft
              obtain ⟨d, hd⟩ : ∃ d, wd s (sizesL s).length r j = d := ⟨_, rfl⟩
              rw [hd] at kd hdn hft
              rw [← HFe2.out] at hft
              have HFt := Lib.hid hft
              have hlk := HM7.out.lookOk (d : Int) (by omega)
              have hnd := nmO_nat F' d
              have hFb := HFk2.out.len_le HEv.out
              clear hd hft
              by_cases hh : hasE F' d = true
              · rw [if_pos hh] at hnd
                rw [hnd] at hlk
                have hlk' : (Instr.lookup 108 (.map (some b)) (.int .i64 (d : Int)) true).run Try.prog wr = .ok (.tuple #[.int .i64 ((nmF F' d : Nat) : Int), .bool true]) wr := hlk
                have HFn := Lib.hid (show fstL F ((walkD s r).take (j + 1)) = F' by rw [HFt.out]; unfold fstAdd; rw [if_pos hh])
                clear hlk hnd hh
                go_wp2_with fail
                go_roundg (P - (j + 1))
                case measure => omega
                case rel => exact ⟨j + 1, F', by omega, by omega, by go_num, HFn.out.symm, HFk2.out, HE7.out, HM7.out, HR7.out, HD7.out⟩
              · have hhf : hasE F' d = false := by simpa using hh
                rw [if_neg hh] at hnd
                rw [hnd] at hlk
                have hlk' : (Instr.lookup 108 (.map (some b)) (.int .i64 (d : Int)) true).run Try.prog wr = .ok (.tuple #[.int .i64 0, .bool false]) wr := hlk
                have HFn := Lib.hid (show fstL F ((walkD s r).take (j + 1)) = F' ++ [d] by rw [HFt.out]; unfold fstAdd; rw [if_neg hh])
                have HFk3 : Hid (FOk n (F' ++ [d])) := Lib.hid (by
                  have := HFk2.out.add hdn
                  unfold fstAdd at this
                  rwa [if_neg hh] at this)
                have hna := nmO_add HFk2.out hdn hhf
                obtain ⟨t, ht⟩ : ∃ t, 2 * F'.length = t := ⟨_, rfl⟩
                have hmn := nmO_mate hhf (t : Int)
                rw [ht] at hna hFb HM7
                obtain ⟨t1, ht1⟩ : ∃ x, t + 1 = x := ⟨_, rfl⟩
                rw [ht1] at hna
                have HT2 : Hid (2 * (F' ++ [d]).length = t + 1 + 1) := Lib.hid (by rw [List.length_append, List.length_singleton, ← ht]; omega)
                have hw1 : IntKind.i64.wrap ((t : Int) + 1) = (t1 : Int) := by rw [show (t : Int) + 1 = (t1 : Int) by omega]; exact IntWalk.i64_in _ (by omega)
                obtain ⟨dm, hdm⟩ : ∃ x, d ^^^ 1 = x := ⟨_, rfl⟩
                have hxl : dm < n := by rw [← hdm]; exact xor_one_lt HEv.out hdn
                rw [hdm] at hna hmn
                have HDm := Lib.hid hdm
                have HNa := Lib.hid hna
                have HMn := Lib.hid hmn
                have HNd := Lib.hid hnd
                have hlen := fun ty => HM7.out.len ty
                clear hlk hnd hh hhf hna hmn ht hdm
                go_upto_region 28 with (first | (at_mapUpdate; refine wpList_fput rfl _ _ _ rfl HM7.out (by omega) (d : Int) (t : Int) rfl rfl rfl (by omega) (by omega) ?_; intro w8 hm8 hg8) | fail)
                rw [HNd.out] at hm8
                have HM8 : Hid (FMap R w8 b (t + 1) (updF (nmO F') (d : Int) (t : Int)) (t + 1)) := Lib.hid hm8
                have HE8 := Lib.hid (HE7.out.mput HM7.out (by exact HBw.out) hg8)
                have hRn : (Value.slice (some ⟨gR, 0, none⟩) l c).ownBlock ≠ some b := fun e => by
                  have h1 := (HR7.out.lt _ e).1
                  omega
                have hDn : (Value.slice (some ⟨gD, 0, none⟩) P cD).ownBlock ≠ some b := fun e => by
                  have h1 := (HD7.out.lt _ e).1
                  have h2 := HBw3.out
                  omega
                have HR8 := Lib.hid (HR7.out.kept hg8 (Or.inr hRn))
                have HD8 := Lib.hid (HD7.out.kept hg8 (Or.inr hDn))
                clear hm8 hg8 hlk' hlen kd HM7 HE7 HR7 HD7
                go_wp2_with (first | (go_at_call 65; refine (rmate_any _ d (by omega)).mono ?_; rintro e w9 ⟨rfl, rfl⟩; rw [HDm.out]) | (at_mapUpdate; refine wpList_fput rfl _ _ _ rfl HM8.out (by omega) (dm : Int) (t1 : Int) rfl rfl rfl (by omega) (by omega) ?_; intro w9 hm9 hg9) | fail)
                rw [HMn.out, HNa.out] at hm9
                have HM9 : Hid (FMap R w9 b (t + 1 + 1) (nmO (F' ++ [d])) (t + 1 + 1)) := Lib.hid hm9
                have HE9 := Lib.hid (HE8.out.mput HM8.out (by exact HBw.out) hg9)
                have HR9 := Lib.hid (HR8.out.kept hg9 (Or.inr hRn))
                have HD9 := Lib.hid (HD8.out.kept hg9 (Or.inr hDn))
                clear hm9 hg9 hRn hDn
                go_wp2_with fail
                go_roundg (P - (j + 1))
                case measure => omega
                case rel => exact ⟨j + 1, F' ++ [d], by omega, by omega, by go_num, HFn.out.symm, HFk3.out, HE9.out, by rw [HT2.out]; exact HM9.out, HR9.out, HD9.out⟩
            · obtain rfl : j = P := by omega
              have HFz := Lib.hid (show fstL F (walkD s r) = F' by rw [HFe2.out, ← HPw.out, List.take_length])
              go_wp2_with fail
              go_roundg (l - (k + 1))
              case measure => omega
              case rel => exact ⟨k + 1, F', by omega, by omega, by go_num, by rw [HFl.out, HFz.out], HFk2.out, HE7.out, HM7.out, HR7.out⟩
        · obtain rfl : k = l := by omega
          have hFG : F = G := by rw [HFe.out, HG.out, ← HLr.out, List.take_length]
          subst hFG
          have hNl := HNl.out
          rw [hNl] at HM
          obtain ⟨x0, x1, x2, _⟩ := boxC_cells (HB1.out _ HE.out).1
          obtain ⟨i0, hi0, hz0, hz1, hz2⟩ := info_parts int_info
          clear HRo HFk
          go_wp2_with (first | (refine wpList_make_full _ rfl _ _ 32 rfl wr.heap.size 3 i0 (.int .i64 0) 1 Try.underlying32 hi0 hz0 hz1 .i64 .i64 (n : Int) (n : Int) n rfl rfl rfl rfl ?q1 ?q2 (Nat.le_refl _) ?_))
          case q1 => rw [hz2]; omega
          case q2 => unfold maxLen; omega
          intro w6 ho6 hg6
          have HE6 := Lib.hid (HE.out.grown hg6 (by simp))
          have HM6 := Lib.hid (HM.out.kept hg6 (by simp))
          have hO6 : OwnI R wr.heap.size 3 w6 (.slice (some ⟨wr.heap.size, 0, none⟩) n n) (outTo n F 0) := by rw [outTo_zero]; exact OwnI.made HE.out.inv ho6
          have hbg : b < wr.heap.size := HM.out.lt
          obtain ⟨g6, hg6e⟩ : ∃ g, wr.heap.size = g := ⟨_, rfl⟩
          have HBg := Lib.hid (show b < g6 by rw [← hg6e]; exact hbg)
          have HWg := Lib.hid (show wa.heap.size ≤ g6 by rw [← hg6e]; exact HE.out.size)
          rw [hg6e] at hO6 ⊢
          have HO6 := Lib.hid hO6
          clear ho6 hg6 hO6 hg6e hbg x0 x1 x2 hi0 hz0 hz1 hz2
          go_wp2_with fail
          go_loopg [111] n (fun g v111 wr => ∃ i : Nat, i ≤ n ∧ n - i ≤ g ∧ v111 = .int .i64 (i : Int) ∧ Ev R wa R wr ∧ FMap R wr b n (nmO F) n ∧ OwnI R g6 3 wr (.slice (some ⟨g6, 0, none⟩) n n) (outTo n F i))
          case atStart => exact ⟨0, Nat.zero_le _, by omega, rfl, HE6.out, HM6.out, HO6.out⟩
          case round =>
            obtain ⟨i, hi, hg3, rfl, hev, hm, ho⟩ := hrel
            have HE7 := Lib.hid hev
            have HM7 := Lib.hid hm
            have HO7 := Lib.hid ho
            clear hev hm ho
            by_cases hin : i < n
            · have hlk := HM7.out.look (i : Int) (by omega)
              rw [nmO_nat, if_pos (HAl.out i hin)] at hlk
              have hos := outTo_set (n := n) (F := F) (i := i)
              obtain ⟨y, hy⟩ : ∃ y, nmF F i = y := ⟨_, rfl⟩
              rw [hy] at hlk hos
              have hlk' : (Instr.lookup 108 (.map (some b)) (.int .i64 (i : Int)) false).run Try.prog wr = .ok (.int .i64 (y : Int)) wr := hlk
              obtain ⟨_, e1, hBg, hRg, kc, zc⟩ := HO7.out.headAt (outTo_length n F i) hin
              cases e1
              have HPut := Lib.hid (by have h := HO7.out.put (outTo_length n F i) i hin (y : Int); rw [hos] at h; exact h : OwnI R g6 3 (wr.setCell ⟨g6, i, none⟩ (.int .i64 (y : Int))) (.slice (some ⟨g6, 0, none⟩) n n) (outTo n F (i + 1)))
              have HEp := Lib.hid (HE7.out.setCell (p := ⟨g6, i, none⟩) HWg.out hRg (.int .i64 (y : Int)))
              have HMp := Lib.hid (HM7.out.setCell (a := ⟨g6, i, none⟩) (show b ≠ g6 by have := HBg.out; omega) (.int .i64 (y : Int)))
              clear hlk hos hy
              go_wp2_with fail
              go_roundg (n - (i + 1))
              case measure => omega
              case rel => exact ⟨i + 1, by omega, by omega, by go_num, HEp.out, HMp.out, HPut.out⟩
            · obtain rfl : i = n := by omega
              go_wp2_with fail
              go_ret
              exact ⟨_, rfl, HEa.out.trans HE7.out, HO7.out.mono (by have := HEa.out.size; have := HWg.out; omega)⟩

end Go.Proofs.Ytlbhmonpfchocaa

namespace Go.Proofs.Ytlbhmonpfchocaa
open Go.RowKit
set_option linter.unusedVariables false

theorem build_mapC (a : Option Addr) (n c : Nat) (r l : Int) (W : World) : (Instr.build 34 #[(0, .slice a n c), (1, .int .i64 r), (2, .int .i64 l)]).run Try.prog W = .ok (.agg #[.slice a n c, .int .i64 r, .int .i64 l]) W := by
  first | kernel_rfl | rfl
/-- the map that is made, in its variable -/
structure OutC (R : Reg) (w0 w : World) (bo gS m : Nat) (T : List Int) (r l : Int) : Prop where
  ev : Ev R w0 R w
  nb : R bo = none
  blk : w.heap[bo]? = some (.cells #[.slice (some ⟨gS, 0, none⟩) m m, .int .i64 r, .int .i64 l] 34 (0, 0))
  own : OwnI R w0.heap.size 3 w (.slice (some ⟨gS, 0, none⟩) m m) T
  lt : w0.heap.size ≤ bo
  ne : gS ≠ bo
  len : T.length = m
theorem OutC.putS {R : Reg} {w0 w : World} {bo gS m : Nat} {T : List Int} {r l : Int} (h : OutC R w0 w bo gS m T r l) {i : Nat} (hi : i < m) (y : Int) : OutC R w0 (w.setCell ⟨gS, i, none⟩ (.int .i64 y)) bo gS m (T.set i y) r l where
  ev := h.ev.setCell (h.own.lt gS rfl).1 (h.own.2 gS rfl) _
  nb := h.nb
  blk := by
    rw [Below.heap_setCell _ _ _ _ (by first | exact h.ne | exact h.ne.symm)]
    exact h.blk
  own := h.own.put h.len i hi _
  lt := h.lt
  ne := h.ne
  len := by rw [List.length_set]; exact h.len
theorem OutC.putR {R : Reg} {w0 w : World} {bo gS m : Nat} {T : List Int} {r l : Int} (h : OutC R w0 w bo gS m T r l) (y : Int) : OutC R w0 (w.setCell ⟨bo, 1, none⟩ (.int .i64 y)) bo gS m T y l := by
  have hnb : (Value.slice (some ⟨gS, 0, none⟩) m m).ownBlock ≠ some (⟨bo, 1, none⟩ : Addr).block := fun e => h.ne (by simpa [Value.ownBlock] using e)
  exact ⟨h.ev.setCell (p := ⟨bo, 1, none⟩) h.lt h.nb _, h.nb, heap_setCell_same _ _ 1 _ _ _ h.blk, h.own.setCell hnb _, h.lt, h.ne, h.len⟩
theorem OutC.cells {R : Reg} {w0 w : World} {bo gS m : Nat} {T : List Int} {r l : Int} (h : OutC R w0 w bo gS m T r l) :
    w.cell? ⟨bo, 0, none⟩ = some (.slice (some ⟨gS, 0, none⟩) m m) ∧ w.cell? ⟨bo, 1, none⟩ = some (.int .i64 r) ∧ w.cell? ⟨bo, 2, none⟩ = some (.int .i64 l) ∧ ∀ o, w.frozen? ⟨bo, o, none⟩ = false := boxC_cells h.blk
theorem OutC.drew {R : Reg} {w0 w : World} {bo gS m : Nat} {T : List Int} {r l : Int} (h : OutC R w0 w bo gS m T r l) : OutC R w0 w.drew bo gS m T r l := ⟨h.ev.drew, h.nb, h.blk, h.own.drew, h.lt, h.ne, h.len⟩
theorem outC_first {R : Reg} {wb : World} {m : Nat} {r l : Int} (hI : Inv R wb) (hm : m ≤ maxLen) :
    OutC R wb ((wb.alloc (.cells (madeCells #[.int .i64 0] m) 3)).alloc (.cells #[.slice (some ⟨wb.heap.size, 0, none⟩) m m, .int .i64 r, .int .i64 l] 34)).drew (wb.heap.size + 1) wb.heap.size m (List.replicate m 0) r l := by
  have h := rowI_made (B := wb.heap.size) (n := m) hI (Nat.le_refl _) hm
  rw [Nat.mul_one] at h
  refine ⟨(((Ev.refl hI).alloc _).alloc _).drew, hI.none_of_ge (by omega), ?_, (h.alloc _).drew, by omega, by omega, by simp⟩
  have e1 := heap_alloc_new (wb.alloc (.cells (madeCells #[.int .i64 0] m) 3)) (.cells #[.slice (some ⟨wb.heap.size, 0, none⟩) m m, .int .i64 r, .int .i64 l] 34)
  have e2 : (wb.alloc (.cells (madeCells #[.int .i64 0] m) 3)).heap.size = wb.heap.size + 1 := by simp
  rw [e2] at e1
  exact e1
theorem outC_second {R : Reg} {wb : World} {m : Nat} {r l : Int} (hI : Inv R wb) (hm : m ≤ maxLen) :
    OutC R wb ((wb.alloc (.cells #[.slice (some ⟨wb.heap.size + 1, 0, none⟩) m m, .int .i64 r, .int .i64 l] 34)).alloc (.cells (madeCells #[.int .i64 0] m) 3)).drew wb.heap.size (wb.heap.size + 1) m (List.replicate m 0) r l := by
  have hev := (Ev.refl hI).alloc (.cells #[.slice (some ⟨wb.heap.size + 1, 0, none⟩) m m, .int .i64 r, .int .i64 l] 34)
  have h := rowI_made (B := wb.heap.size) (n := m) hev.inv (by simp) hm
  rw [Nat.mul_one] at h
  refine ⟨(hev.alloc _).drew, hI.none_of_ge (Nat.le_refl _), ?_, by simpa using h.drew, Nat.le_refl _, by omega, by simp⟩
  show ((wb.alloc _).alloc _).heap[wb.heap.size]? = _
  rw [Below.heap_alloc _ _ _ (by simp)]
  exact heap_alloc_new wb _

set_option maxRecDepth 100000 in
set_option maxHeartbeats 4000000 in
theorem r11canon_some (R : Reg) (w : World) (hI : Inv R w) (v : Value) (s : List Nat) (root : Nat) (lone : Int) (hv : FreeI R w v (toI s)) (hS : IsPerm s) (hn : s.length ≤ 131072) (he : s.length % 2 = 0) (hr : root < s.length) :
    Calls Try.prog 36 #[refV v root lone] w (RetMap R w (relL s (canL s root)) 0 lone) := by
  obtain ⟨a0, cap0, rfl, hv0⟩ := hv.open
  rw [toI_length] at hv hv0 ⊢
  have HNm := Lib.hid (fun w' (hee : Ev R w R w') => r11names_some R w' hee.inv _ s root lone (hv.ev hee) hS hn he hr)
  have htp := canL_perm hS he hr
  have htl : (canL s root).length = s.length := canP_length _ _
  have hroot := canL_root hS he hr
  obtain ⟨t, ht⟩ : ∃ t, canL s root = t := ⟨_, rfl⟩
  rw [ht] at HNm htp htl hroot ⊢
  have HGo := Lib.hid (fun i (hi : i < s.length) => relGo_set htp htl hi)
  have HGl := Lib.hid (fun i => relGo_length s t i)
  have hz := relGo_zero s t
  have hal := relGo_all htp htl
  have HRl := Lib.hid (relL_length s t)
  have HTlt := Lib.hid (fun i (hi : i < s.length) => (by have := htp.lt (i := i) (by rw [htl]; exact hi); omega : at' t i < s.length))
  have HSlt := Lib.hid (fun i (hi : i < s.length) => hS.lt hi)
  have HFv := Lib.hid (fun R' w' (hee : Ev R w R' w') => hv.ev hee)
  obtain ⟨n, hnn⟩ : ∃ n, s.length = n := ⟨_, rfl⟩
  rw [hnn] at hz HNm htl HGo HGl hal HRl HTlt HSlt HFv hn he hr ⊢
  have HNn := Lib.hid hnn
  have HTl := Lib.hid htl
  have HAl := Lib.hid hal
  have HZ := Lib.hid hz
  unfold refV at HNm
  unfold refV
  obtain ⟨i0, hi, hz0, hz1, hz2⟩ := info_parts int_info
  have hms1 := make_eq (n := n) Try.underlying32 hi hz0 hz1 (by rw [hz2]; omega) (by unfold maxLen; omega)
  have hbd := build_mapC
  have he1 : Ev R w R ((w.alloc (.cells #[.slice a0 n cap0, .int .i64 root, .int .i64 lone] 34)).alloc (.cells #[.slice none 0 0, .int .i64 0, .int .i64 0] 34)) := ((Ev.refl hI).alloc _).alloc _
  have hb1 : ((w.alloc (.cells #[.slice a0 n cap0, .int .i64 root, .int .i64 lone] 34)).alloc (.cells #[.slice none 0 0, .int .i64 0, .int .i64 0] 34)).heap[w.heap.size]? = some (.cells #[.slice a0 n cap0, .int .i64 root, .int .i64 lone] 34 (0, 0)) := by
    rw [Below.heap_alloc _ _ _ (by simp)]
    exact heap_alloc_new w _
  have hb2 : ((w.alloc (.cells #[.slice a0 n cap0, .int .i64 root, .int .i64 lone] 34)).alloc (.cells #[.slice none 0 0, .int .i64 0, .int .i64 0] 34)).heap[w.heap.size + 1]? = some (.cells #[.slice none 0 0, .int .i64 0, .int .i64 0] 34 (0, 0)) := by
    have := heap_alloc_new (w.alloc (.cells #[.slice a0 n cap0, .int .i64 root, .int .i64 lone] 34)) (.cells #[.slice none 0 0, .int .i64 0, .int .i64 0] 34)
    simpa using this
  have hn1 : R w.heap.size = none := hI.none_of_ge (Nat.le_refl _)
  have hn2 : R (w.heap.size + 1) = none := hI.none_of_ge (by omega)
  have HMl := Lib.hid (show n ≤ maxLen by unfold maxLen; omega)
  go_enter Try.func36, Try.ntmps36
  go_upto_region 1 with fail
  obtain ⟨wb, hwb⟩ : ∃ wb, wb = (w.alloc (.cells #[.slice a0 n cap0, .int .i64 root, .int .i64 lone] 34)).alloc (.cells #[.slice none 0 0, .int .i64 0, .int .i64 0] 34) := ⟨_, rfl⟩
  have hwz : wb.heap.size = w.heap.size + 1 + 1 := by rw [hwb]; simp
  rw [← hwb] at he1 hb1 hb2 ⊢
  have HB1 := Lib.hid (fun w' (h : Ev R wb R w') => h.boxC3 hb1 hn1)
  have HB2 := Lib.hid (fun w' (h : Ev R wb R w') => h.boxC3 hb2 hn2)
  have HEb := Lib.hid he1
  have HZb := Lib.hid hwz
  obtain ⟨x0, x1, x2, _⟩ := boxC_cells hb1
  clear hwb hb1 hb2 hn1 hn2 hI hv hv0 hS he1 hnn ht htp htl hz hal hwz
  go_wp2_with fail
  refine (HNm.out _ HEb.out).mono ?_
  rintro z w3 ⟨v3, rfl, he3, ho3⟩
  obtain ⟨a3, c3, rfl, _⟩ := ho3.ints.open
  rw [toI_length, HTl.out] at ho3 ⊢
  have HE3 := Lib.hid he3
  have HO3 := Lib.hid ho3
  clear he3 ho3 x0 x1 x2
  obtain ⟨x0, x1, x2, _⟩ := boxC_cells (HB1.out _ HE3.out).1
  have hlt0 : w.heap.size < w3.heap.size := lt_of_cell x0
  go_upto_region 2 with fail
  go_cut [4] (fun s4 wx => ∃ bo gS, s4 = .pointer (some ⟨bo, 0, none⟩) ∧ OutC R w3 wx bo gS n (List.replicate n 0) root lone)
  case first =>
    go_region
    all_goals (go_wp2_with fail; go_meet)
    all_goals first
      | exact ⟨_, _, rfl, outC_first HE3.out.inv HMl.out⟩
      | exact ⟨_, _, rfl, outC_second HE3.out.inv HMl.out⟩
  case rest =>
    obtain ⟨bo, gS, rfl, hout⟩ := hcut
    obtain ⟨w4, hw4⟩ : ∃ w4, w4 = wc := ⟨_, rfl⟩
    subst hw4
    rw [← HZ.out] at hout
    have HOut := Lib.hid hout
    clear hout hms1 hbd hi hz0 hz1 hz2 x0 x1 x2
    obtain ⟨x0, x1, x2, _⟩ := boxC_cells (HB1.out _ (HE3.out.trans HOut.out.ev)).1
    go_wp2_with fail
    clear x0 x1 x2
    go_loopg [21] n (fun g v21 wr => ∃ i : Nat, i ≤ n ∧ n - i ≤ g ∧ v21 = .int .i64 (i : Int) ∧ OutC R w3 wr bo gS n (relGo s t i) root lone)
    case atStart => exact ⟨0, Nat.zero_le _, by omega, rfl, HOut.out⟩
    case round =>
      obtain ⟨i, hi, hg, rfl, ho⟩ := hrel
      have HO := Lib.hid ho
      clear ho
      by_cases hin : i < n
      · have hgo := HGo.out i hin
        have htl1 := HTlt.out i hin
        have hsl1 := HSlt.out i hin
        have htl2 := HTlt.out (at' s i) hsl1
        obtain ⟨bS, oS, e1, hcs⟩ := (HFv.out _ _ (HEb.out.trans (HE3.out.trans HO.out.ev))).1.cell (i := i) (by rw [toI_length, HNn.out]; exact hin)
        subst e1
        rw [toI_nth] at hcs
        have hp3 := HO3.out.ev HO.out.ev
        obtain ⟨g3, e2, _, _, k1, _⟩ := hp3.headAt (by rw [toI_length]; exact HTl.out) hin
        subst e2
        obtain ⟨_, e2, _, _, k2, _⟩ := hp3.headAt (by rw [toI_length]; exact HTl.out) hsl1
        cases e2
        rw [toI_nth] at k1 k2
        obtain ⟨x, hx⟩ : ∃ x, at' s i = x := ⟨_, rfl⟩
        rw [hx] at hcs hsl1 htl2 k2 hgo
        obtain ⟨y1, hy1⟩ : ∃ x, at' t i = x := ⟨_, rfl⟩
        rw [hy1] at htl1 k1 hgo
        obtain ⟨y2, hy2⟩ : ∃ y, at' t x = y := ⟨_, rfl⟩
        rw [hy2] at htl2 k2 hgo
        obtain ⟨c0, c1, c2, cz⟩ := HO.out.cells
        obtain ⟨_, e2, hBg, hRg, kc, zc⟩ := HO.out.own.headAt (HGl.out i) htl1
        cases e2
        have HGg := Lib.hid hgo
        clear hgo hx hy1 hy2 hp3 c1 c2 cz
        go_upto_region 6 with fail
        go_still_tail 11, (by kernel_rfl)
        change wpList _ _ _ _ _ wr.drew
        obtain ⟨w7, hw7⟩ : ∃ w7, w7 = wr.drew := ⟨_, rfl⟩
        have hz7 : w7.frozen? ⟨gS, y1, none⟩ = false := by rw [hw7]; exact zc
        have hc7 : w7.cell? ⟨gS, y1, none⟩ = some (.int .i64 (nth (relGo s t i) y1)) := by rw [hw7]; exact kc
        have HO7 : Hid (OutC R w3 (w7.setCell ⟨gS, y1, none⟩ (.int .i64 ((y2 : Nat) : Int))) bo gS n (relGo s t (i + 1)) root lone) := Lib.hid (by
          rw [hw7, ← HGg.out]
          exact HO.out.drew.putS htl1 ((y2 : Nat) : Int))
        rw [← hw7]
        clear hw7 zc kc c0 hcs k1 k2
        go_wp2_with fail
        go_roundg (n - (i + 1))
        case measure => omega
        case rel => exact ⟨i + 1, by omega, by omega, by go_num, HO7.out⟩
      · obtain rfl : i = n := by omega
        obtain ⟨x0, x1, x2, _⟩ := boxC_cells (HB1.out _ (HE3.out.trans HO.out.ev)).1
        obtain ⟨g3, e2, _, _, k1, _⟩ := (HO3.out.ev HO.out.ev).headAt (by rw [toI_length]; exact HTl.out) hr
        subst e2
        rw [toI_nth, hroot] at k1
        obtain ⟨c0, c1, c2, cz⟩ := HO.out.cells
        have hip : 0 < i := by omega
        have hOf := HO.out.putR 0
        rw [HAl.out] at hOf
        go_upto_region 10 with fail
        obtain ⟨w7, hw7⟩ : ∃ w7, w7 = wr.setCell ⟨bo, 1, none⟩ (.int .i64 0) := ⟨_, rfl⟩
        rw [← hw7] at hOf
        first | rw [← hw7] | skip
        have HOf := Lib.hid hOf
        clear hw7 hOf c0 c1 c2 cz x0 x1 x2 k1
        obtain ⟨c0, c1, c2, cz⟩ := HOf.out.cells
        have hEv7 := HE3.out.trans HOf.out.ev
        obtain ⟨y0, y1, y2, yz⟩ := boxC_cells (HB2.out _ hEv7).1
        go_wp2_with fail
        have hb3 := set3 (x := .slice (some ⟨gS, 0, none⟩) i i) (y := .int .i64 0) (z := .int .i64 lone) (HB2.out _ hEv7).1
        obtain ⟨u0, u1, u2, _⟩ := boxC_cells hb3
        have hn2 := (HB2.out _ hEv7).2
        have hgr := (HOf.out.own.lt gS rfl).1
        have hz3 := HE3.out.size
        refine bodyPost_ret (v := refV (.slice (some ⟨gS, 0, none⟩) i i) 0 lone) ?_ rfl ?_
        · simp [results, Try.results36, go_sem, u0, u1, u2, refV]
        · refine ⟨some ⟨gS, 0, none⟩, i, by rw [HRl.out], ?_, ?_⟩
          · exact (((HEb.out.trans hEv7).setCell (by simp) hn2 _).setCell (by simp) hn2 _).setCell (by simp) hn2 _
          · have hne : ∀ (o : Nat), (Value.slice (some ⟨gS, 0, none⟩) i i).ownBlock ≠ some (⟨w.heap.size + 1, o, none⟩ : Addr).block := fun o e' => by
              have h1 : gS = w.heap.size + 1 := by simpa [Value.ownBlock] using e'
              have h2 := HZb.out
              omega
            rw [HRl.out]
            exact (((HOf.out.own.mono (by have := HZb.out; omega)).setCell (hne 0) _).setCell (hne 1) _).setCell (hne 2) _

end Go.Proofs.Ytlbhmonpfchocaa

namespace Go.Proofs.Ytlbhmonpfchocaa
open Go.RowKit Go.Maps
set_option linter.unusedVariables false

set_option maxRecDepth 100000 in
set_option maxHeartbeats 2000000 in
theorem r11names_none (R : Reg) (w : World) (hI : Inv R w) (v : Value) (root lone : Int) (hv : FreeI R w v (toI [])) :
    Calls Try.prog 38 #[refV v root lone] w (RetOwn R w []) := by
  obtain ⟨a0, cap0, rfl, hv0⟩ := hv.open
  simp only [toI, List.map_nil, List.length_nil] at hv hv0 ⊢
  have HNm := Lib.hid (fun w' (hee : Ev R w R w') => (r8names_any R w' hee.inv _ [] root lone (hv.ev hee) (range_perm 0) (by simp) rfl : Calls Try.prog 72 #[refV (.slice a0 0 cap0) root lone] w' (RetOwn R w' [])))
  unfold refV at HNm
  unfold refV
  have he1 : Ev R w R (w.alloc (.cells #[.slice a0 0 cap0, .int .i64 root, .int .i64 lone] 34)) := (Ev.refl hI).alloc _
  have hn1 : R w.heap.size = none := hI.none_of_ge (Nat.le_refl _)
  have HB1 := Lib.hid (fun w' (h : Ev R (w.alloc (.cells #[.slice a0 0 cap0, .int .i64 root, .int .i64 lone] 34)) R w') => h.boxC3 (heap_alloc_new w _) hn1)
  have hmm := @run_makeMap Try.prog
  obtain ⟨wa, hwa⟩ : ∃ wa, wa = w.alloc (.cells #[.slice a0 0 cap0, .int .i64 root, .int .i64 lone] 34) := ⟨_, rfl⟩
  have HEa : Hid (Ev R w R wa) := Lib.hid (by rw [hwa]; exact he1)
  have HEm := Lib.hid ((Ev.refl HEa.out.inv).alloc (.map #[] 0))
  rw [← hwa] at HB1
  obtain ⟨x0, x1, x2, _⟩ := boxC_cells (HB1.out _ HEm.out).1
  have hwz : wa.heap.size = w.heap.size + 1 := by rw [hwa]; simp
  clear hI hv hv0 he1 hn1
  go_enter Try.func38, Try.ntmps38
  go_upto_region 2 with fail
  rw [← hwa]
  rw [← hwz]
  clear hwa hwz
  go_wp2_with fail
  refine (HNm.out _ (HEa.out.trans HEm.out)).mono ?_
  rintro z w2 ⟨v2, rfl, he2, ho2⟩
  obtain ⟨aN, cN, rfl, _⟩ := ho2.ints.open
  rw [show (partsL []).length = 0 from rfl]
  obtain ⟨b, hb⟩ : ∃ b, wa.heap.size = b := ⟨_, rfl⟩
  rw [hb]
  have HE2 := Lib.hid (HEm.out.trans he2)
  obtain ⟨x0, x1, x2, _⟩ := boxC_cells (HB1.out _ HE2.out).1
  clear he2 ho2 hmm hb
  go_wp2_with fail
  go_loopg [5, 35] 0 (fun g v5 v35 wr => v5 = .slice none 0 0 ∧ v35 = .int .i64 0 ∧ wr = w2)
  case atStart => exact ⟨rfl, rfl, rfl⟩
  case round =>
    obtain ⟨rfl, rfl, rfl⟩ := hrel
    go_wp2_with fail
    obtain ⟨w3, hw3⟩ : ∃ x, x = wr := ⟨_, rfl⟩
    subst hw3
    go_loopg [69] 0 (fun g v69 wr => v69 = .int .i64 0 ∧ wr = w3)
    case atStart => exact ⟨rfl, rfl⟩
    case round =>
      obtain ⟨rfl, rfl⟩ := hrel
      obtain ⟨i0, hi0, hz0, hz1, hz2⟩ := info_parts int_info
      go_wp2_with (first | (refine wpList_make_full _ rfl _ _ 32 rfl wr.heap.size 3 i0 (.int .i64 0) 1 Try.underlying32 hi0 hz0 hz1 .i64 .i64 0 0 0 rfl rfl rfl rfl ?q1 ?q2 (Nat.le_refl _) ?_))
      case q1 => rw [hz2]; omega
      case q2 => unfold maxLen; omega
      intro w6 ho6 hg6
      have HE6 := Lib.hid ((HEa.out.trans HE2.out).grown hg6 (by simp))
      have hO6 : OwnI R wr.heap.size 3 w6 (.slice (some ⟨wr.heap.size, 0, none⟩) 0 0) [] := OwnI.made (n := 0) HE2.out.inv ho6
      have HO6 := Lib.hid (hO6.mono (B' := w.heap.size) (HEa.out.trans HE2.out).size)
      clear ho6 hg6 hO6 x0 x1 x2 hi0 hz0 hz1 hz2
      go_wp2_with fail
      obtain ⟨g6, hg6⟩ : ∃ g, wr.heap.size = g := ⟨_, rfl⟩
      rw [hg6] at HO6 ⊢
      go_loopg [111] 0 (fun g v111 wq => v111 = .int .i64 0 ∧ wq = w6)
      case atStart => exact ⟨rfl, rfl⟩
      case round =>
        obtain ⟨rfl, rfl⟩ := hrel
        go_wp2_with fail
        go_ret
        exact ⟨_, rfl, HE6.out, HO6.out⟩

set_option maxRecDepth 100000 in
set_option maxHeartbeats 4000000 in
theorem r11canon_none (R : Reg) (w : World) (hI : Inv R w) (v : Value) (root lone : Int) (hv : FreeI R w v (toI [])) :
    Calls Try.prog 36 #[refV v root lone] w (RetMap R w [] root lone) := by
  obtain ⟨a0, cap0, rfl, hv0⟩ := hv.open
  have HNm := Lib.hid (fun w' (hee : Ev R w R w') => r11names_none R w' hee.inv _ root lone (hv.ev hee))
  simp only [toI, List.map_nil, List.length_nil] at HNm hv hv0 ⊢
  unfold refV at HNm
  unfold refV
  obtain ⟨i0, hi, hz0, hz1, hz2⟩ := info_parts int_info
  have hms1 := make_eq (n := 0) Try.underlying32 hi hz0 hz1 (by rw [hz2]; omega) (by unfold maxLen; omega)
  have hms2 : ∀ (W : World), (Instr.makeSlice 32 (.int .i64 0) (.int .i64 0)).run Try.prog W = .ok (.slice (some ⟨W.heap.size, 0, none⟩) 0 0) (W.alloc (.cells (madeCells #[.int .i64 0] 0) 3)) := fun W => hms1 W
  have hbd := build_mapC
  have he1 : Ev R w R ((w.alloc (.cells #[.slice a0 0 cap0, .int .i64 root, .int .i64 lone] 34)).alloc (.cells #[.slice none 0 0, .int .i64 0, .int .i64 0] 34)) := ((Ev.refl hI).alloc _).alloc _
  have hb1 : ((w.alloc (.cells #[.slice a0 0 cap0, .int .i64 root, .int .i64 lone] 34)).alloc (.cells #[.slice none 0 0, .int .i64 0, .int .i64 0] 34)).heap[w.heap.size]? = some (.cells #[.slice a0 0 cap0, .int .i64 root, .int .i64 lone] 34 (0, 0)) := by
    rw [Below.heap_alloc _ _ _ (by simp)]
    exact heap_alloc_new w _
  have hb2 : ((w.alloc (.cells #[.slice a0 0 cap0, .int .i64 root, .int .i64 lone] 34)).alloc (.cells #[.slice none 0 0, .int .i64 0, .int .i64 0] 34)).heap[w.heap.size + 1]? = some (.cells #[.slice none 0 0, .int .i64 0, .int .i64 0] 34 (0, 0)) := by
    have := heap_alloc_new (w.alloc (.cells #[.slice a0 0 cap0, .int .i64 root, .int .i64 lone] 34)) (.cells #[.slice none 0 0, .int .i64 0, .int .i64 0] 34)
    simpa using this
  have hn1 : R w.heap.size = none := hI.none_of_ge (Nat.le_refl _)
  have hn2 : R (w.heap.size + 1) = none := hI.none_of_ge (by omega)
  go_enter Try.func36, Try.ntmps36
  go_upto_region 1 with fail
  obtain ⟨wb, hwb⟩ : ∃ wb, wb = (w.alloc (.cells #[.slice a0 0 cap0, .int .i64 root, .int .i64 lone] 34)).alloc (.cells #[.slice none 0 0, .int .i64 0, .int .i64 0] 34) := ⟨_, rfl⟩
  have hwz : wb.heap.size = w.heap.size + 1 + 1 := by rw [hwb]; simp
  rw [← hwb] at he1 hb1 hb2 ⊢
  have HB1 := Lib.hid (fun w' (h : Ev R wb R w') => h.boxC3 hb1 hn1)
  have HB2 := Lib.hid (fun w' (h : Ev R wb R w') => h.boxC3 hb2 hn2)
  have HEb := Lib.hid he1
  have HZb := Lib.hid hwz
  obtain ⟨x0, x1, x2, _⟩ := boxC_cells hb1
  clear hwb hb1 hb2 hn1 hn2 hI hv hv0 he1 hwz
  go_wp2_with fail
  refine (HNm.out _ HEb.out).mono ?_
  rintro z w3 ⟨v3, rfl, he3, ho3⟩
  obtain ⟨a3, c3, rfl, _⟩ := ho3.ints.open
  rw [List.length_nil]
  have HE3 := Lib.hid he3
  clear he3 ho3 x0 x1 x2
  obtain ⟨x0, x1, x2, _⟩ := boxC_cells (HB1.out _ HE3.out).1
  have hlt0 : w.heap.size < w3.heap.size := lt_of_cell x0
  go_upto_region 2 with fail
  go_cut [4] (fun s4 wx => ∃ bo gS, s4 = .pointer (some ⟨bo, 0, none⟩) ∧ OutC R w3 wx bo gS 0 [] root lone)
  case first =>
    go_region
    all_goals (go_wp2_with fail; go_meet)
    all_goals first
      | exact ⟨_, _, rfl, outC_first (m := 0) HE3.out.inv (Nat.zero_le _)⟩
      | exact ⟨_, _, rfl, outC_second (m := 0) HE3.out.inv (Nat.zero_le _)⟩
  case rest =>
    obtain ⟨bo, gS, rfl, hout⟩ := hcut
    obtain ⟨w4, hw4⟩ : ∃ w4, w4 = wc := ⟨_, rfl⟩
    subst hw4
    have HOut := Lib.hid hout
    clear hout hms1 hms2 hbd hi hz0 hz1 hz2 x0 x1 x2
    obtain ⟨x0, x1, x2, _⟩ := boxC_cells (HB1.out _ (HE3.out.trans HOut.out.ev)).1
    go_wp2_with fail
    go_loopg [21] 0 (fun g v21 wr => v21 = .int .i64 0 ∧ wr = w4)
    case atStart => exact ⟨rfl, rfl⟩
    case round =>
      obtain ⟨rfl, rfl⟩ := hrel
      obtain ⟨c0, c1, c2, cz⟩ := HOut.out.cells
      have hEv7 := HE3.out.trans HOut.out.ev
      obtain ⟨y0, y1, y2, yz⟩ := boxC_cells (HB2.out _ hEv7).1
      go_wp2_with fail
      have hb3 := set3 (x := .slice (some ⟨gS, 0, none⟩) 0 0) (y := .int .i64 root) (z := .int .i64 lone) (HB2.out _ hEv7).1
      obtain ⟨u0, u1, u2, _⟩ := boxC_cells hb3
      have hn2 := (HB2.out _ hEv7).2
      have hgr := (HOut.out.own.lt gS rfl).1
      have hz3 := HE3.out.size
      refine bodyPost_ret (v := refV (.slice (some ⟨gS, 0, none⟩) 0 0) root lone) ?_ rfl ?_
      · simp [results, Try.results36, go_sem, u0, u1, u2, refV]
      · refine ⟨some ⟨gS, 0, none⟩, 0, rfl, ?_, ?_⟩
        · exact (((HEb.out.trans hEv7).setCell (by simp) hn2 _).setCell (by simp) hn2 _).setCell (by simp) hn2 _
        · have hne : ∀ (o : Nat), (Value.slice (some ⟨gS, 0, none⟩) 0 0).ownBlock ≠ some (⟨w.heap.size + 1, o, none⟩ : Addr).block := fun o e' => by
            have h1 : gS = w.heap.size + 1 := by simpa [Value.ownBlock] using e'
            have h2 := HZb.out
            omega
          exact (((HOut.out.own.mono (by have := HZb.out; omega)).setCell (hne 0) _).setCell (hne 1) _).setCell (hne 2) _

theorem r11names_any (R : Reg) (w : World) (hI : Inv R w) (v : Value) (s : List Nat) (root lone : Int) (hv : FreeI R w v (toI s)) (hS : IsPerm s) (hok : MapOk s root lone) (hn : s.length ≤ 131072) :
    Calls Try.prog 38 #[refV v root lone] w (RetOwn R w (toI (canPm s root))) := by
  by_cases h0 : s.length = 0
  · obtain rfl := List.eq_nil_of_length_eq_zero h0
    exact r11names_none R w hI v root lone hv
  · obtain ⟨r, rfl, hr⟩ : ∃ r : Nat, root = (r : Int) ∧ r < s.length := ⟨root.toNat, by have := hok.2.2.2.2; omega, by have := hok.2.2.2.2; omega⟩
    unfold canPm
    rw [if_neg h0, Int.toNat_natCast]
    exact r11names_some R w hI v s r lone hv hS hn hok.1 hr
theorem r11canon_any (R : Reg) (w : World) (hI : Inv R w) (v : Value) (s : List Nat) (root lone : Int) (hv : FreeI R w v (toI s)) (hS : IsPerm s) (hok : MapOk s root lone) (hn : s.length ≤ 131072) :
    Calls Try.prog 36 #[refV v root lone] w (RetMap R w (canM s root) (canR s root) lone) := by
  by_cases h0 : s.length = 0
  · obtain rfl := List.eq_nil_of_length_eq_zero h0
    exact r11canon_none R w hI v root lone hv
  · obtain ⟨r, rfl, hr⟩ : ∃ r : Nat, root = (r : Int) ∧ r < s.length := ⟨root.toNat, by have := hok.2.2.2.2; omega, by have := hok.2.2.2.2; omega⟩
    unfold canM canR
    rw [if_neg h0, if_neg h0, Int.toNat_natCast]
    exact r11canon_some R w hI v s r lone hv hS hn hok.1 hr

end Go.Proofs.Ytlbhmonpfchocaa

namespace Go.Proofs.Ytlbhmonpfchocaa
set_option linter.unusedVariables false

theorem con_all {s : List Nat} (hs : IsPerm s) (he : s.length % 2 = 0) (h1 : partsN s ≤ 1) {x y : Nat} (hx : x < s.length) (hy : y < s.length) : Con s x y := by
  have ho := partsL_ord hs he
  have hz : ∀ x, x < s.length → nth (partsL s) x = 0 := fun x hx => by
    have hb := ho.bound hx
    have hm := ho.mono (k := x + 1) (l := s.length) (by omega) (Nat.le_refl _)
    have hc : (partsGo s s.length).2 = partsN s := rfl
    simp only [hc] at hm
    omega
  exact (ho.rel _ _ hx hy).1 (by rw [hz x hx, hz y hy])
section
variable {s t : List Nat} (hs : IsPerm s) (he : s.length % 2 = 0) (ht : IsPerm t) (hl : t.length = s.length) (hm : Mates t) (h1 : partsN s ≤ 1)
include hs he ht hl hm h1
theorem can_one {r d : Nat} (hr : r < s.length) (hd : d < s.length) : at' (canL (relL s t) (at' t r)) (at' t d) = at' (canL s r) d := by
  have hp := relL_perm hs ht hl
  have hrl := relL_length s t
  have hlt : ∀ x, x < s.length → at' t x < s.length := fun x hx => by have := ht.lt (i := x) (by rw [hl]; exact hx); omega
  refine canL_rel hs he ht hl hm hr ?_ hd
  rw [rootsL_one hs he hr fun x hx => con_all hs he h1 hr hx, rootsL_one hp (by rw [hrl]; exact he) (by rw [hrl]; exact hlt r hr) fun x hx => con_all hp (by rw [hrl]; exact he) (by rw [rel_parts hs he ht hl hm]; exact h1) (by rw [hrl]; exact hlt r hr) hx]
  rfl
theorem relL_one {r : Nat} (hr : r < s.length) : relL (relL s t) (canL (relL s t) (at' t r)) = relL s (canL s r) := by
  have hp := relL_perm hs ht hl
  have hrl := relL_length s t
  have her : (relL s t).length % 2 = 0 := by rw [hrl]; exact he
  have hlt : ∀ x, x < s.length → at' t x < s.length := fun x hx => by have := ht.lt (i := x) (by rw [hl]; exact hx); omega
  have hcan := fun d hd => can_one hs he ht hl hm h1 (d := d) hr hd
  have hcp := canL_perm hs he hr
  have hcl : (canL s r).length = s.length := canP_length _ _
  have hcp2 := canL_perm hp her (root := at' t r) (by rw [hrl]; exact hlt r hr)
  have hcl2 : (canL (relL s t) (at' t r)).length = (relL s t).length := canP_length _ _
  obtain ⟨p, hpe⟩ : ∃ p, canL s r = p := ⟨_, rfl⟩
  obtain ⟨q, hqe⟩ : ∃ q, canL (relL s t) (at' t r) = q := ⟨_, rfl⟩
  rw [hpe] at hcan hcp hcl ⊢
  rw [hqe] at hcan hcp2 hcl2 ⊢
  refine eq_at (by rw [relL_length, relL_length, relL_length]) fun j hj => ?_
  rw [relL_length, hrl] at hj
  obtain ⟨d, hd, rfl⟩ := hcp.surj (y := j) (by rw [hcl]; exact hj)
  rw [hcl] at hd
  rw [relL_to hcp hcl hd, ← hcan d hd, relL_to hcp2 hcl2 (by rw [hrl]; exact hlt d hd), relL_to ht hl hd, hcan _ (hs.lt hd)]
/-- what is told of both -/
theorem once_all {r : Int} (hok : MapOk s r 0) : canM (relL s t) (atI t r) = canM s r ∧ canR (relL s t) (atI t r) = canR s r ∧ ∀ d, d < s.length → atI (canPm (relL s t) (atI t r)) ((at' t d : Nat) : Int) = atI (canPm s r) (d : Int) := by
  have hrl := relL_length s t
  by_cases h0 : s.length = 0
  · have hr : r = -1 := by have := hok.2.2.2.2; omega
    have e1 : relL s t = s := by
      have h2 : s = [] := List.eq_nil_of_length_eq_zero h0
      rw [h2]; rfl
    have e2 : atI t r = r := by rw [hr]; exact atI_out (Or.inl (by omega))
    rw [e1, e2]
    exact ⟨rfl, rfl, fun d hd => by omega⟩
  · obtain ⟨r0, rfl, hr⟩ : ∃ r0 : Nat, r = (r0 : Int) ∧ r0 < s.length := ⟨r.toNat, by have := hok.2.2.2.2; omega, by have := hok.2.2.2.2; omega⟩
    have hlt : ∀ x, x < s.length → at' t x < s.length := fun x hx => by have := ht.lt (i := x) (by rw [hl]; exact hx); omega
    rw [atI_in (by rw [hl]; exact hr)]
    refine ⟨?_, ?_, fun d hd => ?_⟩
    · unfold canM
      rw [hrl, if_neg h0, if_neg h0, Int.toNat_natCast, Int.toNat_natCast]
      exact relL_one hs he ht hl hm h1 hr
    · unfold canR
      rw [hrl, if_neg h0, if_neg h0]
    · unfold canPm
      rw [hrl, if_neg h0, if_neg h0, Int.toNat_natCast, Int.toNat_natCast]
      have hcl : (canL s r0).length = s.length := canP_length _ _
      have hcl2 : (canL (relL s t) (at' t r0)).length = s.length := by rw [show (canL (relL s t) (at' t r0)).length = (relL s t).length from canP_length _ _, hrl]
      rw [atI_in (by rw [hcl2]; exact hlt d hd), atI_in (by rw [hcl]; exact hd), can_one hs he ht hl hm h1 hr hd]
end

end Go.Proofs.Ytlbhmonpfchocaa
