/- Package mixed: Add of one letter, Len; walk.Word, Tree. Conditions: what is read lies in memory. -/
import Derived.Test.YtnbecpeiodcohaaWalkC
namespace Go.Proofs.Ytnbecpeiodcohaa
open Go.RowKit
set_option linter.unusedVariables false

/-- a word of letters -/
def WordAt (R : Reg) (B : Nat) (w : World) (v : Value) (bs : List Int) : Prop :=
  ∃ (b : Nat) (sl : Value) (T : TypeId), v = .pointer (some ⟨b, 0, none⟩) ∧ B ≤ b ∧ R b = none ∧ w.heap[b]? = some (.cells #[sl] T (0, 0)) ∧ OwnV R (b + 1) 5 1 w sl bs.length (bs.map (Value.int .u8))

theorem WordAt.ev {R R1 : Reg} {B : Nat} {w w1 : World} {v : Value} {bs : List Int} (h : WordAt R B w v bs) (he : Ev R w R1 w1) : WordAt R1 B w1 v bs := by
  obtain ⟨b, sl, T, h1, h2, h3, h4, h5⟩ := h
  have hl := lt_of_block h4
  exact ⟨b, sl, T, h1, h2, he.free b hl h3, by rw [he.block b hl h3]; exact h4, h5.ev he⟩

theorem uint8_info : (Try.prog.info? 5).map (fun i => (i.zero, i.size, i.bytes)) = some (some (.int .u8 0), 1, 1) := by kernel_rfl

def addK (bs : List Int) (k : Int) : List Int := if badK k = true then bs else bs ++ [k]

theorem set1 {w : World} {b : Nat} {x y : Value} {T : TypeId} (h : w.heap[b]? = some (.cells #[x] T (0, 0))) : (w.setCell ⟨b, 0, none⟩ y).heap[b]? = some (.cells #[y] T (0, 0)) := by
  exact heap_setCell_same w b 0 _ T y h

set_option maxRecDepth 100000 in
set_option maxHeartbeats 2000000 in
theorem add_one (R0 : Reg) (w0 : World) (R : Reg) (w : World) (he : Ev R0 w0 R w) (B : Nat) (hB : w0.heap.size ≤ B) (v : Value) (bs : List Int) (hw : WordAt R B w v bs) (hn : bs.length ≤ 4194304) (g : Nat) (k : Int) (hc : w.cell? ⟨g, 0, none⟩ = some (.int .i64 k)) :
    Calls Try.prog 83 #[v, .slice (some ⟨g, 0, none⟩) 1 1] w fun e w' => ∃ r : Int, e = .returned (.int .i64 r) ∧ Ev R0 w0 R w' ∧ WordAt R B w' v (addK bs k) := by
  have hw0 := hw
  obtain ⟨b, sl, T, rfl, hBb, hRb, hblk, hown⟩ := hw
  have hF := containsf_add w (some ⟨g, 0, none⟩) 1 1 [k] ⟨_, 1, rfl, by simp, by simp [maxLen], fun i hi => ⟨g, 0, rfl, by
    have e : i = 0 := by simpa using hi
    subst e; simpa [nth] using hc⟩⟩ (by omega)
  have k0 : w.cell? ⟨b, 0, none⟩ = some sl := cells_at hblk 0
  have z0 : w.frozen? ⟨b, 0, none⟩ = false := by simp [World.frozen?, hblk]
  have hzb := lt_of_block hblk
  have HF := Lib.hid hF
  have HE := Lib.hid he
  have HO := Lib.hid hown
  have HW := Lib.hid hw0
  have HBK := Lib.hid hblk
  clear hF he hown hw0 hblk
  by_cases hbad : badK k = true
  · have e0 : addK bs k = bs := by unfold addK; rw [if_pos hbad]
    rw [e0]
    go_enter Try.func83, Try.ntmps83
    go_wp2_with fail
    refine HF.out.mono ?_
    rintro e w' ⟨rfl, r, rfl, ⟨rfl, h⟩ | ⟨rfl, i, hi, hb⟩⟩
    · have := h 0 (by omega)
      have e1 : nth [k] 0 = k := rfl
      rw [e1, hbad] at this
      cases this
    · go_wp2_with fail
      go_ret
      exact ⟨_, rfl, HE.out, HW.out⟩
  · have e0 : addK bs k = bs ++ [k] := by unfold addK; rw [if_neg hbad]
    rw [e0]
    have hk4 : k = 0 ∨ k = 1 ∨ k = 2 ∨ k = 3 := by simp [badK] at hbad; omega
    have hap := HO.out.alloc (.cells #[.int .u8 k] 5)
    have HAP := Lib.hid hap
    have HEA := Lib.hid (HE.out.alloc (.cells #[.int .u8 k] 5))
    clear hap e0
    rcases hk4 with rfl | rfl | rfl | rfl
    · have hbf : badK 0 = false := by rfl
      go_enter Try.func83, Try.ntmps83
      go_wp2_with fail
      refine HF.out.mono ?_
      rintro e w' ⟨rfl, r, rfl, ⟨rfl, h⟩ | ⟨rfl, i, hi, hb⟩⟩
      · clear h
        go_wp2_with fail
        go_loopg [15] 1 (fun gg v15 wr => (gg = 1 ∧ v15 = .int .i64 0 ∧ wr = w') ∨ (gg = 0 ∧ v15 = .int .i64 1 ∧ Ev R0 w0 R wr ∧ WordAt R B wr (.pointer (some ⟨b, 0, none⟩)) (bs ++ [0])))
        case atStart => exact Or.inl ⟨rfl, rfl, rfl⟩
        case round =>
          rcases hrel with ⟨rfl, rfl, rfl⟩ | ⟨rfl, rfl, he, hw⟩
          · go_wp2_with (at_builtin; refine wpList_app_row 22 5 1 1 _ Try.underlying22 uint8_info rfl (by omega) (by omega) (R := R) (B := b + 1) rfl _ _ rfl HAP.out rfl ⟨wr.heap.size, 0, none⟩ 1 1 [.int .u8 0] rfl rfl ?g10 ?g20 ?g30 ?g40 ?g50 ?_)
            case g10 => exact cells_new _ _ _
            case g20 =>
              intro u hu
              simp only [List.mem_cons, List.not_mem_nil, or_false] at hu
              subst hu; rfl
            case g30 => omega
            case g40 => simp; omega
            case g50 => exact fun q hq => HEA.out.inv.none_of_ge (by simp at hq ⊢; omega)
            intro v' w5 ho5 hg5 _
            obtain ⟨a5, c5, e5, _⟩ := ho5.open
            subst e5
            obtain ⟨v', hv'⟩ : ∃ v, v = Value.slice a5 (bs.length + 1) c5 := ⟨_, rfl⟩
            rw [← hv'] at ho5
            have hb5 : w5.heap[b]? = some (.cells #[sl] T (0, 0)) := by
              rw [hg5.block b (by simp; omega) (fun e => by have := (HAP.out.lt b e.symm).1; omega), Below.heap_alloc _ _ _ hzb]
              exact HBK.out
            have k5 : w5.cell? ⟨b, 0, none⟩ = some sl := cells_at hb5 0
            have z5 : w5.frozen? ⟨b, 0, none⟩ = false := by simp [World.frozen?, hb5]
            have HE5 := Lib.hid ((HEA.out.appV HAP.out (by omega) hg5).setCell (p := ⟨b, 0, none⟩) (by show _ ≤ b; omega) hRb v')
            have HW5 : Hid (WordAt R B (w5.setCell ⟨b, 0, none⟩ v') (.pointer (some ⟨b, 0, none⟩)) (bs ++ [0])) := Lib.hid ⟨b, v', T, rfl, hBb, hRb, set1 hb5, by
              have h := ho5.setCell (a := ⟨b, 0, none⟩) (fun e => by have := (ho5.lt _ e).1; simp at this; omega) v'
              simpa using h⟩
            rw [hv'] at HE5 HW5
            clear hb5 ho5 hg5
            go_wp2_with fail
            go_roundg 0
            case measure => omega
            case rel => exact Or.inr ⟨rfl, rfl, HE5.out, HW5.out⟩
          · have HE5 := Lib.hid he
            have HW5 := Lib.hid hw
            clear he hw
            go_wp2_with fail
            go_ret
            exact ⟨_, rfl, HE5.out, HW5.out⟩
      · have e1 : nth [(0 : Int)] i = 0 := by
          obtain rfl : i = 0 := by omega
          rfl
        rw [e1, hbf] at hb
        cases hb
    · have hbf : badK 1 = false := by rfl
      go_enter Try.func83, Try.ntmps83
      go_wp2_with fail
      refine HF.out.mono ?_
      rintro e w' ⟨rfl, r, rfl, ⟨rfl, h⟩ | ⟨rfl, i, hi, hb⟩⟩
      · clear h
        go_wp2_with fail
        go_loopg [15] 1 (fun gg v15 wr => (gg = 1 ∧ v15 = .int .i64 0 ∧ wr = w') ∨ (gg = 0 ∧ v15 = .int .i64 1 ∧ Ev R0 w0 R wr ∧ WordAt R B wr (.pointer (some ⟨b, 0, none⟩)) (bs ++ [1])))
        case atStart => exact Or.inl ⟨rfl, rfl, rfl⟩
        case round =>
          rcases hrel with ⟨rfl, rfl, rfl⟩ | ⟨rfl, rfl, he, hw⟩
          · go_wp2_with (at_builtin; refine wpList_app_row 22 5 1 1 _ Try.underlying22 uint8_info rfl (by omega) (by omega) (R := R) (B := b + 1) rfl _ _ rfl HAP.out rfl ⟨wr.heap.size, 0, none⟩ 1 1 [.int .u8 1] rfl rfl ?g11 ?g21 ?g31 ?g41 ?g51 ?_)
            case g11 => exact cells_new _ _ _
            case g21 =>
              intro u hu
              simp only [List.mem_cons, List.not_mem_nil, or_false] at hu
              subst hu; rfl
            case g31 => omega
            case g41 => simp; omega
            case g51 => exact fun q hq => HEA.out.inv.none_of_ge (by simp at hq ⊢; omega)
            intro v' w5 ho5 hg5 _
            obtain ⟨a5, c5, e5, _⟩ := ho5.open
            subst e5
            obtain ⟨v', hv'⟩ : ∃ v, v = Value.slice a5 (bs.length + 1) c5 := ⟨_, rfl⟩
            rw [← hv'] at ho5
            have hb5 : w5.heap[b]? = some (.cells #[sl] T (0, 0)) := by
              rw [hg5.block b (by simp; omega) (fun e => by have := (HAP.out.lt b e.symm).1; omega), Below.heap_alloc _ _ _ hzb]
              exact HBK.out
            have k5 : w5.cell? ⟨b, 0, none⟩ = some sl := cells_at hb5 0
            have z5 : w5.frozen? ⟨b, 0, none⟩ = false := by simp [World.frozen?, hb5]
            have HE5 := Lib.hid ((HEA.out.appV HAP.out (by omega) hg5).setCell (p := ⟨b, 0, none⟩) (by show _ ≤ b; omega) hRb v')
            have HW5 : Hid (WordAt R B (w5.setCell ⟨b, 0, none⟩ v') (.pointer (some ⟨b, 0, none⟩)) (bs ++ [1])) := Lib.hid ⟨b, v', T, rfl, hBb, hRb, set1 hb5, by
              have h := ho5.setCell (a := ⟨b, 0, none⟩) (fun e => by have := (ho5.lt _ e).1; simp at this; omega) v'
              simpa using h⟩
            rw [hv'] at HE5 HW5
            clear hb5 ho5 hg5
            go_wp2_with fail
            go_roundg 0
            case measure => omega
            case rel => exact Or.inr ⟨rfl, rfl, HE5.out, HW5.out⟩
          · have HE5 := Lib.hid he
            have HW5 := Lib.hid hw
            clear he hw
            go_wp2_with fail
            go_ret
            exact ⟨_, rfl, HE5.out, HW5.out⟩
      · have e1 : nth [(1 : Int)] i = 1 := by
          obtain rfl : i = 0 := by omega
          rfl
        rw [e1, hbf] at hb
        cases hb
    · have hbf : badK 2 = false := by rfl
      go_enter Try.func83, Try.ntmps83
      go_wp2_with fail
      refine HF.out.mono ?_
      rintro e w' ⟨rfl, r, rfl, ⟨rfl, h⟩ | ⟨rfl, i, hi, hb⟩⟩
      · clear h
        go_wp2_with fail
        go_loopg [15] 1 (fun gg v15 wr => (gg = 1 ∧ v15 = .int .i64 0 ∧ wr = w') ∨ (gg = 0 ∧ v15 = .int .i64 1 ∧ Ev R0 w0 R wr ∧ WordAt R B wr (.pointer (some ⟨b, 0, none⟩)) (bs ++ [2])))
        case atStart => exact Or.inl ⟨rfl, rfl, rfl⟩
        case round =>
          rcases hrel with ⟨rfl, rfl, rfl⟩ | ⟨rfl, rfl, he, hw⟩
          · go_wp2_with (at_builtin; refine wpList_app_row 22 5 1 1 _ Try.underlying22 uint8_info rfl (by omega) (by omega) (R := R) (B := b + 1) rfl _ _ rfl HAP.out rfl ⟨wr.heap.size, 0, none⟩ 1 1 [.int .u8 2] rfl rfl ?g12 ?g22 ?g32 ?g42 ?g52 ?_)
            case g12 => exact cells_new _ _ _
            case g22 =>
              intro u hu
              simp only [List.mem_cons, List.not_mem_nil, or_false] at hu
              subst hu; rfl
            case g32 => omega
            case g42 => simp; omega
            case g52 => exact fun q hq => HEA.out.inv.none_of_ge (by simp at hq ⊢; omega)
            intro v' w5 ho5 hg5 _
            obtain ⟨a5, c5, e5, _⟩ := ho5.open
            subst e5
            obtain ⟨v', hv'⟩ : ∃ v, v = Value.slice a5 (bs.length + 1) c5 := ⟨_, rfl⟩
            rw [← hv'] at ho5
            have hb5 : w5.heap[b]? = some (.cells #[sl] T (0, 0)) := by
              rw [hg5.block b (by simp; omega) (fun e => by have := (HAP.out.lt b e.symm).1; omega), Below.heap_alloc _ _ _ hzb]
              exact HBK.out
            have k5 : w5.cell? ⟨b, 0, none⟩ = some sl := cells_at hb5 0
            have z5 : w5.frozen? ⟨b, 0, none⟩ = false := by simp [World.frozen?, hb5]
            have HE5 := Lib.hid ((HEA.out.appV HAP.out (by omega) hg5).setCell (p := ⟨b, 0, none⟩) (by show _ ≤ b; omega) hRb v')
            have HW5 : Hid (WordAt R B (w5.setCell ⟨b, 0, none⟩ v') (.pointer (some ⟨b, 0, none⟩)) (bs ++ [2])) := Lib.hid ⟨b, v', T, rfl, hBb, hRb, set1 hb5, by
              have h := ho5.setCell (a := ⟨b, 0, none⟩) (fun e => by have := (ho5.lt _ e).1; simp at this; omega) v'
              simpa using h⟩
            rw [hv'] at HE5 HW5
            clear hb5 ho5 hg5
            go_wp2_with fail
            go_roundg 0
            case measure => omega
            case rel => exact Or.inr ⟨rfl, rfl, HE5.out, HW5.out⟩
          · have HE5 := Lib.hid he
            have HW5 := Lib.hid hw
            clear he hw
            go_wp2_with fail
            go_ret
            exact ⟨_, rfl, HE5.out, HW5.out⟩
      · have e1 : nth [(2 : Int)] i = 2 := by
          obtain rfl : i = 0 := by omega
          rfl
        rw [e1, hbf] at hb
        cases hb
    · have hbf : badK 3 = false := by rfl
      go_enter Try.func83, Try.ntmps83
      go_wp2_with fail
      refine HF.out.mono ?_
      rintro e w' ⟨rfl, r, rfl, ⟨rfl, h⟩ | ⟨rfl, i, hi, hb⟩⟩
      · clear h
        go_wp2_with fail
        go_loopg [15] 1 (fun gg v15 wr => (gg = 1 ∧ v15 = .int .i64 0 ∧ wr = w') ∨ (gg = 0 ∧ v15 = .int .i64 1 ∧ Ev R0 w0 R wr ∧ WordAt R B wr (.pointer (some ⟨b, 0, none⟩)) (bs ++ [3])))
        case atStart => exact Or.inl ⟨rfl, rfl, rfl⟩
        case round =>
          rcases hrel with ⟨rfl, rfl, rfl⟩ | ⟨rfl, rfl, he, hw⟩
          · go_wp2_with (at_builtin; refine wpList_app_row 22 5 1 1 _ Try.underlying22 uint8_info rfl (by omega) (by omega) (R := R) (B := b + 1) rfl _ _ rfl HAP.out rfl ⟨wr.heap.size, 0, none⟩ 1 1 [.int .u8 3] rfl rfl ?g13 ?g23 ?g33 ?g43 ?g53 ?_)
            case g13 => exact cells_new _ _ _
            case g23 =>
              intro u hu
              simp only [List.mem_cons, List.not_mem_nil, or_false] at hu
              subst hu; rfl
            case g33 => omega
            case g43 => simp; omega
            case g53 => exact fun q hq => HEA.out.inv.none_of_ge (by simp at hq ⊢; omega)
            intro v' w5 ho5 hg5 _
            obtain ⟨a5, c5, e5, _⟩ := ho5.open
            subst e5
            obtain ⟨v', hv'⟩ : ∃ v, v = Value.slice a5 (bs.length + 1) c5 := ⟨_, rfl⟩
            rw [← hv'] at ho5
            have hb5 : w5.heap[b]? = some (.cells #[sl] T (0, 0)) := by
              rw [hg5.block b (by simp; omega) (fun e => by have := (HAP.out.lt b e.symm).1; omega), Below.heap_alloc _ _ _ hzb]
              exact HBK.out
            have k5 : w5.cell? ⟨b, 0, none⟩ = some sl := cells_at hb5 0
            have z5 : w5.frozen? ⟨b, 0, none⟩ = false := by simp [World.frozen?, hb5]
            have HE5 := Lib.hid ((HEA.out.appV HAP.out (by omega) hg5).setCell (p := ⟨b, 0, none⟩) (by show _ ≤ b; omega) hRb v')
            have HW5 : Hid (WordAt R B (w5.setCell ⟨b, 0, none⟩ v') (.pointer (some ⟨b, 0, none⟩)) (bs ++ [3])) := Lib.hid ⟨b, v', T, rfl, hBb, hRb, set1 hb5, by
              have h := ho5.setCell (a := ⟨b, 0, none⟩) (fun e => by have := (ho5.lt _ e).1; simp at this; omega) v'
              simpa using h⟩
            rw [hv'] at HE5 HW5
            clear hb5 ho5 hg5
            go_wp2_with fail
            go_roundg 0
            case measure => omega
            case rel => exact Or.inr ⟨rfl, rfl, HE5.out, HW5.out⟩
          · have HE5 := Lib.hid he
            have HW5 := Lib.hid hw
            clear he hw
            go_wp2_with fail
            go_ret
            exact ⟨_, rfl, HE5.out, HW5.out⟩
      · have e1 : nth [(3 : Int)] i = 3 := by
          obtain rfl : i = 0 := by omega
          rfl
        rw [e1, hbf] at hb
        cases hb

set_option maxRecDepth 100000 in
set_option maxHeartbeats 1000000 in
theorem wlen_any (R : Reg) (B : Nat) (w : World) (v : Value) (bs : List Int) (hw : WordAt R B w v bs) : Calls Try.prog 39 #[v] w fun e w' => e = .returned (.int .i64 (bs.length : Int)) ∧ w' = w := by
  obtain ⟨b, sl, T, rfl, hBb, hRb, hblk, hown⟩ := hw
  obtain ⟨a, c, rfl, _⟩ := hown.open
  have k0 := cells_at hblk 0
  simp at k0
  clear hown hblk
  go_enter Try.func39, Try.ntmps39
  go_wp2_with fail
  go_ret
  exact ⟨rfl, rfl⟩

def wordL (xs : List (Int × Int)) : List Int := xs.foldl (fun bs x => addK bs x.2) []
theorem wordL_succ {xs : List (Int × Int)} {i : Nat} (h : i < xs.length) : wordL (xs.take (i + 1)) = addK (wordL (xs.take i)) (nthS xs i).2 := by
  unfold wordL
  rw [List.take_add_one, List.getElem?_eq_getElem h, List.foldl_append, nthS_get h]
  rfl
theorem wordL_length : ∀ (xs : List (Int × Int)) (i : Nat), i ≤ xs.length → (wordL (xs.take i)).length ≤ i
  | xs, 0, _ => by simp [wordL]
  | xs, i + 1, h => by
    have ih := wordL_length xs i (by omega)
    rw [wordL_succ (by omega)]
    unfold addK
    split
    · omega
    · simp; omega

set_option maxRecDepth 100000 in
set_option maxHeartbeats 2000000 in
theorem word_any (R : Reg) (w : World) (hI : Inv R w) (a : Option Addr) (n cap : Nat) (xs : List (Int × Int)) (hv : FreeS R w (.slice a n cap) xs) (hn : n ≤ 1000000) :
    Calls Try.prog 24 #[.slice a n cap] w fun e w' => ∃ v, e = .returned v ∧ Ev R w R w' ∧ WordAt R w.heap.size w' v (wordL xs) := by
  have HL := Lib.hid hv.length
  have HV := Lib.hid hv
  have HI := Lib.hid hI
  have HE0 := Lib.hid ((Ev.refl hI).alloc (.cells #[nilS] 123))
  have hW0 : WordAt R w.heap.size (w.alloc (.cells #[nilS] 123)) (.pointer (some ⟨w.heap.size, 0, none⟩)) [] :=
    ⟨w.heap.size, nilS, 123, rfl, Nat.le_refl _, hI.none_of_ge (Nat.le_refl _), heap_alloc_new w _, OwnV.nil _ _ _ _ _⟩
  have HW0 := Lib.hid hW0
  clear hv hI hW0
  go_enter Try.func24, Try.ntmps24
  go_wp2_with (go_at_call 82; refine (new_word _).mono ?_; rintro e w' ⟨rfl, rfl⟩)
  obtain ⟨B, hB⟩ : ∃ B, w.heap.size = B := ⟨_, rfl⟩
  rw [hB] at HW0 ⊢
  have HBe := Lib.hid hB
  clear hB
  obtain ⟨w1, hw1⟩ : ∃ w1, w.alloc (.cells #[nilS] 123) = w1 := ⟨_, rfl⟩
  rw [hw1] at HE0 HW0
  try rw [hw1]
  clear hw1
  go_loopg [9] n (fun g v9 wr => ∃ i : Nat, i ≤ n ∧ n - i ≤ g ∧ v9 = .int .i64 (i : Int) ∧ Ev R w R wr ∧ WordAt R B wr (.pointer (some ⟨B, 0, none⟩)) (wordL (xs.take i)))
  case atStart => exact ⟨0, by omega, by omega, rfl, HE0.out, by simpa [wordL] using HW0.out⟩
  case round =>
    obtain ⟨i, hi, hg, rfl, he, hw⟩ := hrel
    have HE := Lib.hid he
    have HW := Lib.hid hw
    clear he hw
    by_cases hil : i < n
    · obtain ⟨gb, off, rfl, hgn, c0, c1⟩ := (HV.out.ev HE.out).at hil
      have hsucc := wordL_succ (xs := xs) (i := i) (by have := HL.out; omega)
      have hlen := wordL_length xs i (by have := HL.out; omega)
      obtain ⟨x, hx⟩ : ∃ x, nthS xs i = x := ⟨_, rfl⟩
      rw [hx] at c0 c1 hsucc
      obtain ⟨d, k⟩ := x
      simp only at c0 c1 hsucc
      have HS := Lib.hid hsucc
      have HLn := Lib.hid hlen
      clear hsucc hlen hx
      have he2 := HE.out.alloc (.cells #[.int .i64 d, .int .i64 k] 41)
      have he3 := he2.alloc (.cells #[.int .i64 k] 3)
      have hw3 := (HW.out.ev ((Ev.refl HE.out.inv).alloc (.cells #[.int .i64 d, .int .i64 k] 41))).ev ((Ev.refl he2.inv).alloc (.cells #[.int .i64 k] 3))
      have hadd := add_one R w R _ he3 B (by have := HBe.out; omega) _ _ hw3 (by have := HLn.out; omega) (wr.heap.size + 1) k (by simp)
      have HA := Lib.hid hadd
      clear he2 he3 hw3 hadd
      go_wp2_with fail
      refine HA.out.mono ?_
      rintro e w5 ⟨r, rfl, he5, hw5⟩
      have HE5 := Lib.hid he5
      have HW5 := Lib.hid hw5
      clear he5 hw5
      go_wp2_with fail
      go_roundg (n - (i + 1))
      case measure => omega
      case rel => exact ⟨i + 1, by omega, by omega, by go_num, HE5.out, by rw [HS.out]; exact HW5.out⟩
    · obtain rfl : i = n := by omega
      go_wp2_with fail
      go_ret
      have e : xs.take i = xs := by rw [HL.out]; exact List.take_length
      have hw := HW.out
      rw [e] at hw
      exact ⟨_, rfl, HE.out, by rw [HBe.out]; exact hw⟩

end Go.Proofs.Ytnbecpeiodcohaa
