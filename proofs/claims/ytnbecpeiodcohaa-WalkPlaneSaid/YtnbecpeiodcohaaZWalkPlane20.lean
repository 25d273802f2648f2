/- Package mixed: Add of one letter, Len; walk.Word, Tree. Conditions: what is read lies in memory. What is matched so far, and what is open, as lists. Conditions: none. parquetryref03.Mates: who is matched with whom. Conditions: the list lies in memory, what closes finds an open one. parquetryref04.Mates: each letter's mate, sort by sort. Conditions: each letter is one of four, the list lies in memory, each sort's letters come in pairs. A walk's word: its sorts' letters are pairs; what the stacks find are the edges just if the part lies in the plane. Conditions: none. -/
import Derived.Test.YtnbecpeiodcohaaZWalkPlane19
import Derived.Test.YtnbecpeiodcohaaZWalkPlane11
import Derived.Test.YtnbecpeiodcohaaZWalkPlane18
import Derived.Test.YtnbecpeiodcohaaZWalkPlane17
namespace Go.Proofs.Ytnbecpeiodcohaa
open Go.RowKit
set_option linter.unusedVariables false

/-- a word of letters -/
def WordAt (R : Reg) (B : Nat) (w : World) (v : Value) (bs : List Int) : Prop :=
  ∃ (b : Nat) (sl : Value) (T : TypeId), v = .pointer (some ⟨b, 0, none⟩) ∧ B ≤ b ∧ R b = none ∧ w.heap[b]? = some (.cells #[sl] T (0, 0)) ∧ OwnV R (b + 1) 5 1 w sl bs.length (bs.map (Value.int .u8))

theorem WordAt.ev {R R1 : Reg} {B : Nat} {w w1 : World} {v : Value} {bs : List Int} (h : WordAt R B w v bs) (he : Ev R w R1 w1) : WordAt R1 B w1 v bs := by
  obtain ⟨b, sl, T, h1, h2, h3, h4, h5⟩ := h
  have hl := lt_of_block h4
  exact ⟨b, sl, T, h1, h2, he.free b hl h3, by rw [he.block b hl h3]; exact h4, h5.ev he⟩

theorem uint8_info : (Try.prog.info? 5).map (fun i => (i.zero, i.size, i.bytes)) = some (some (.int .u8 0), 1, 1) := by kernel_rfl

def addK (bs : List Int) (k : Int) : List Int := if badK k = true then bs else bs ++ [k]

theorem set1 {w : World} {b : Nat} {x y : Value} {T : TypeId} (h : w.heap[b]? = some (.cells #[x] T (0, 0))) : (w.setCell ⟨b, 0, none⟩ y).heap[b]? = some (.cells #[y] T (0, 0)) := by
  exact heap_setCell_same w b 0 _ T y h

set_option maxRecDepth 100000 in
set_option maxHeartbeats 2000000 in
theorem add_one (R0 : Reg) (w0 : World) (R : Reg) (w : World) (he : Ev R0 w0 R w) (B : Nat) (hB : w0.heap.size ≤ B) (v : Value) (bs : List Int) (hw : WordAt R B w v bs) (hn : bs.length ≤ 4194304) (g : Nat) (k : Int) (hc : w.cell? ⟨g, 0, none⟩ = some (.int .i64 k)) :
    Calls Try.prog 83 #[v, .slice (some ⟨g, 0, none⟩) 1 1] w fun e w' => ∃ r : Int, e = .returned (.int .i64 r) ∧ Ev R0 w0 R w' ∧ WordAt R B w' v (addK bs k) := by
  have hw0 := hw
  obtain ⟨b, sl, T, rfl, hBb, hRb, hblk, hown⟩ := hw
  have hF := containsf_add w (some ⟨g, 0, none⟩) 1 1 [k] ⟨_, 1, rfl, by simp, by simp [maxLen], fun i hi => ⟨g, 0, rfl, by
    have e : i = 0 := by simpa using hi
    subst e; simpa [nth] using hc⟩⟩ (by omega)
  have k0 : w.cell? ⟨b, 0, none⟩ = some sl := cells_at hblk 0
  have z0 : w.frozen? ⟨b, 0, none⟩ = false := by simp [World.frozen?, hblk]
  have hzb := lt_of_block hblk
  have HF := Lib.hid hF
  have HE := Lib.hid he
  have HO := Lib.hid hown
  have HW := Lib.hid hw0
  have HBK := Lib.hid hblk
  clear hF he hown hw0 hblk
  by_cases hbad : badK k = true
  · have e0 : addK bs k = bs := by unfold addK; rw [if_pos hbad]
    rw [e0]
    go_enter Try.func83, Try.ntmps83
    go_wp2_with fail
    refine HF.out.mono ?_
    rintro e w' ⟨rfl, r, rfl, ⟨rfl, h⟩ | ⟨rfl, i, hi, hb⟩⟩
    · have := h 0 (by omega)
      have e1 : nth [k] 0 = k := rfl
      rw [e1, hbad] at this
      cases this
    · go_wp2_with fail
      go_ret
      exact ⟨_, rfl, HE.out, HW.out⟩
  · have e0 : addK bs k = bs ++ [k] := by unfold addK; rw [if_neg hbad]
    rw [e0]
    have hk4 : k = 0 ∨ k = 1 ∨ k = 2 ∨ k = 3 := by simp [badK] at hbad; omega
    have hap := HO.out.alloc (.cells #[.int .u8 k] 5)
    have HAP := Lib.hid hap
    have HEA := Lib.hid (HE.out.alloc (.cells #[.int .u8 k] 5))
    clear hap e0
    rcases hk4 with rfl | rfl | rfl | rfl
    · have hbf : badK 0 = false := by rfl
      go_enter Try.func83, Try.ntmps83
      go_wp2_with fail
      refine HF.out.mono ?_
      rintro e w' ⟨rfl, r, rfl, ⟨rfl, h⟩ | ⟨rfl, i, hi, hb⟩⟩
      · clear h
        go_wp2_with fail
        go_loopg [15] 1 (fun gg v15 wr => (gg = 1 ∧ v15 = .int .i64 0 ∧ wr = w') ∨ (gg = 0 ∧ v15 = .int .i64 1 ∧ Ev R0 w0 R wr ∧ WordAt R B wr (.pointer (some ⟨b, 0, none⟩)) (bs ++ [0])))
        case atStart => exact Or.inl ⟨rfl, rfl, rfl⟩
        case round =>
          rcases hrel with ⟨rfl, rfl, rfl⟩ | ⟨rfl, rfl, he, hw⟩
          · go_wp2_with (at_builtin; refine wpList_app_row 22 5 1 1 _ Try.underlying22 uint8_info rfl (by omega) (by omega) (R := R) (B := b + 1) rfl _ _ rfl HAP.out rfl ⟨wr.heap.size, 0, none⟩ 1 1 [.int .u8 0] rfl rfl ?g10 ?g20 ?g30 ?g40 ?g50 ?_)
            case g10 => exact cells_new _ _ _
            case g20 =>
              intro u hu
              simp only [List.mem_cons, List.not_mem_nil, or_false] at hu
              subst hu; rfl
            case g30 => omega
            case g40 => simp; omega
            case g50 => exact fun q hq => HEA.out.inv.none_of_ge (by simp at hq ⊢; omega)
            intro v' w5 ho5 hg5 _
            obtain ⟨a5, c5, e5, _⟩ := ho5.open
            subst e5
            obtain ⟨v', hv'⟩ : ∃ v, v = Value.slice a5 (bs.length + 1) c5 := ⟨_, rfl⟩
            rw [← hv'] at ho5
            have hb5 : w5.heap[b]? = some (.cells #[sl] T (0, 0)) := by
              rw [hg5.block b (by simp; omega) (fun e => by have := (HAP.out.lt b e.symm).1; omega), Below.heap_alloc _ _ _ hzb]
              exact HBK.out
            have k5 : w5.cell? ⟨b, 0, none⟩ = some sl := cells_at hb5 0
            have z5 : w5.frozen? ⟨b, 0, none⟩ = false := by simp [World.frozen?, hb5]
            have HE5 := Lib.hid ((HEA.out.appV HAP.out (by omega) hg5).setCell (p := ⟨b, 0, none⟩) (by show _ ≤ b; omega) hRb v')
            have HW5 : Hid (WordAt R B (w5.setCell ⟨b, 0, none⟩ v') (.pointer (some ⟨b, 0, none⟩)) (bs ++ [0])) := Lib.hid ⟨b, v', T, rfl, hBb, hRb, set1 hb5, by
              have h := ho5.setCell (a := ⟨b, 0, none⟩) (fun e => by have := (ho5.lt _ e).1; simp at this; omega) v'
              simpa using h⟩
            rw [hv'] at HE5 HW5
            clear hb5 ho5 hg5
            go_wp2_with fail
            go_roundg 0
            case measure => omega
            case rel => exact Or.inr ⟨rfl, rfl, HE5.out, HW5.out⟩
          · have HE5 := Lib.hid he
            have HW5 := Lib.hid hw
            clear he hw
            go_wp2_with fail
            go_ret
            exact ⟨_, rfl, HE5.out, HW5.out⟩
      · have e1 : nth [(0 : Int)] i = 0 := by
          obtain rfl : i = 0 := by omega
          rfl
        rw [e1, hbf] at hb
        cases hb
    · have hbf : badK 1 = false := by rfl
      go_enter Try.func83, Try.ntmps83
      go_wp2_with fail
      refine HF.out.mono ?_
      rintro e w' ⟨rfl, r, rfl, ⟨rfl, h⟩ | ⟨rfl, i, hi, hb⟩⟩
      · clear h
        go_wp2_with fail
        go_loopg [15] 1 (fun gg v15 wr => (gg = 1 ∧ v15 = .int .i64 0 ∧ wr = w') ∨ (gg = 0 ∧ v15 = .int .i64 1 ∧ Ev R0 w0 R wr ∧ WordAt R B wr (.pointer (some ⟨b, 0, none⟩)) (bs ++ [1])))
        case atStart => exact Or.inl ⟨rfl, rfl, rfl⟩
        case round =>
          rcases hrel with ⟨rfl, rfl, rfl⟩ | ⟨rfl, rfl, he, hw⟩
          · go_wp2_with (at_builtin; refine wpList_app_row 22 5 1 1 _ Try.underlying22 uint8_info rfl (by omega) (by omega) (R := R) (B := b + 1) rfl _ _ rfl HAP.out rfl ⟨wr.heap.size, 0, none⟩ 1 1 [.int .u8 1] rfl rfl ?g11 ?g21 ?g31 ?g41 ?g51 ?_)
            case g11 => exact cells_new _ _ _
            case g21 =>
              intro u hu
              simp only [List.mem_cons, List.not_mem_nil, or_false] at hu
              subst hu; rfl
            case g31 => omega
            case g41 => simp; omega
            case g51 => exact fun q hq => HEA.out.inv.none_of_ge (by simp at hq ⊢; omega)
            intro v' w5 ho5 hg5 _
            obtain ⟨a5, c5, e5, _⟩ := ho5.open
            subst e5
            obtain ⟨v', hv'⟩ : ∃ v, v = Value.slice a5 (bs.length + 1) c5 := ⟨_, rfl⟩
            rw [← hv'] at ho5
            have hb5 : w5.heap[b]? = some (.cells #[sl] T (0, 0)) := by
              rw [hg5.block b (by simp; omega) (fun e => by have := (HAP.out.lt b e.symm).1; omega), Below.heap_alloc _ _ _ hzb]
              exact HBK.out
            have k5 : w5.cell? ⟨b, 0, none⟩ = some sl := cells_at hb5 0
            have z5 : w5.frozen? ⟨b, 0, none⟩ = false := by simp [World.frozen?, hb5]
            have HE5 := Lib.hid ((HEA.out.appV HAP.out (by omega) hg5).setCell (p := ⟨b, 0, none⟩) (by show _ ≤ b; omega) hRb v')
            have HW5 : Hid (WordAt R B (w5.setCell ⟨b, 0, none⟩ v') (.pointer (some ⟨b, 0, none⟩)) (bs ++ [1])) := Lib.hid ⟨b, v', T, rfl, hBb, hRb, set1 hb5, by
              have h := ho5.setCell (a := ⟨b, 0, none⟩) (fun e => by have := (ho5.lt _ e).1; simp at this; omega) v'
              simpa using h⟩
            rw [hv'] at HE5 HW5
            clear hb5 ho5 hg5
            go_wp2_with fail
            go_roundg 0
            case measure => omega
            case rel => exact Or.inr ⟨rfl, rfl, HE5.out, HW5.out⟩
          · have HE5 := Lib.hid he
            have HW5 := Lib.hid hw
            clear he hw
            go_wp2_with fail
            go_ret
            exact ⟨_, rfl, HE5.out, HW5.out⟩
      · have e1 : nth [(1 : Int)] i = 1 := by
          obtain rfl : i = 0 := by omega
          rfl
        rw [e1, hbf] at hb
        cases hb
    · have hbf : badK 2 = false := by rfl
      go_enter Try.func83, Try.ntmps83
      go_wp2_with fail
      refine HF.out.mono ?_
      rintro e w' ⟨rfl, r, rfl, ⟨rfl, h⟩ | ⟨rfl, i, hi, hb⟩⟩
      · clear h
        go_wp2_with fail
        go_loopg [15] 1 (fun gg v15 wr => (gg = 1 ∧ v15 = .int .i64 0 ∧ wr = w') ∨ (gg = 0 ∧ v15 = .int .i64 1 ∧ Ev R0 w0 R wr ∧ WordAt R B wr (.pointer (some ⟨b, 0, none⟩)) (bs ++ [2])))
        case atStart => exact Or.inl ⟨rfl, rfl, rfl⟩
        case round =>
          rcases hrel with ⟨rfl, rfl, rfl⟩ | ⟨rfl, rfl, he, hw⟩
          · go_wp2_with (at_builtin; refine wpList_app_row 22 5 1 1 _ Try.underlying22 uint8_info rfl (by omega) (by omega) (R := R) (B := b + 1) rfl _ _ rfl HAP.out rfl ⟨wr.heap.size, 0, none⟩ 1 1 [.int .u8 2] rfl rfl ?g12 ?g22 ?g32 ?g42 ?g52 ?_)
            case g12 => exact cells_new _ _ _
            case g22 =>
              intro u hu
              simp only [List.mem_cons, List.not_mem_nil, or_false] at hu
              subst hu; rfl
            case g32 => omega
            case g42 => simp; omega
            case g52 => exact fun q hq => HEA.out.inv.none_of_ge (by simp at hq ⊢; omega)
            intro v' w5 ho5 hg5 _
            obtain ⟨a5, c5, e5, _⟩ := ho5.open
            subst e5
            obtain ⟨v', hv'⟩ : ∃ v, v = Value.slice a5 (bs.length + 1) c5 := ⟨_, rfl⟩
            rw [← hv'] at ho5
            have hb5 : w5.heap[b]? = some (.cells #[sl] T (0, 0)) := by
              rw [hg5.block b (by simp; omega) (fun e => by have := (HAP.out.lt b e.symm).1; omega), Below.heap_alloc _ _ _ hzb]
              exact HBK.out
            have k5 : w5.cell? ⟨b, 0, none⟩ = some sl := cells_at hb5 0
            have z5 : w5.frozen? ⟨b, 0, none⟩ = false := by simp [World.frozen?, hb5]
            have HE5 := Lib.hid ((HEA.out.appV HAP.out (by omega) hg5).setCell (p := ⟨b, 0, none⟩) (by show _ ≤ b; omega) hRb v')
            have HW5 : Hid (WordAt R B (w5.setCell ⟨b, 0, none⟩ v') (.pointer (some ⟨b, 0, none⟩)) (bs ++ [2])) := Lib.hid ⟨b, v', T, rfl, hBb, hRb, set1 hb5, by
              have h := ho5.setCell (a := ⟨b, 0, none⟩) (fun e => by have := (ho5.lt _ e).1; simp at this; omega) v'
              simpa using h⟩
            rw [hv'] at HE5 HW5
            clear hb5 ho5 hg5
            go_wp2_with fail
            go_roundg 0
            case measure => omega
            case rel => exact Or.inr ⟨rfl, rfl, HE5.out, HW5.out⟩
          · have HE5 := Lib.hid he
            have HW5 := Lib.hid hw
            clear he hw
            go_wp2_with fail
            go_ret
            exact ⟨_, rfl, HE5.out, HW5.out⟩
      · have e1 : nth [(2 : Int)] i = 2 := by
          obtain rfl : i = 0 := by omega
          rfl
        rw [e1, hbf] at hb
        cases hb
    · have hbf : badK 3 = false := by rfl
      go_enter Try.func83, Try.ntmps83
      go_wp2_with fail
      refine HF.out.mono ?_
      rintro e w' ⟨rfl, r, rfl, ⟨rfl, h⟩ | ⟨rfl, i, hi, hb⟩⟩
      · clear h
        go_wp2_with fail
        go_loopg [15] 1 (fun gg v15 wr => (gg = 1 ∧ v15 = .int .i64 0 ∧ wr = w') ∨ (gg = 0 ∧ v15 = .int .i64 1 ∧ Ev R0 w0 R wr ∧ WordAt R B wr (.pointer (some ⟨b, 0, none⟩)) (bs ++ [3])))
        case atStart => exact Or.inl ⟨rfl, rfl, rfl⟩
        case round =>
          rcases hrel with ⟨rfl, rfl, rfl⟩ | ⟨rfl, rfl, he, hw⟩
          · go_wp2_with (at_builtin; refine wpList_app_row 22 5 1 1 _ Try.underlying22 uint8_info rfl (by omega) (by omega) (R := R) (B := b + 1) rfl _ _ rfl HAP.out rfl ⟨wr.heap.size, 0, none⟩ 1 1 [.int .u8 3] rfl rfl ?g13 ?g23 ?g33 ?g43 ?g53 ?_)
            case g13 => exact cells_new _ _ _
            case g23 =>
              intro u hu
              simp only [List.mem_cons, List.not_mem_nil, or_false] at hu
              subst hu; rfl
            case g33 => omega
            case g43 => simp; omega
            case g53 => exact fun q hq => HEA.out.inv.none_of_ge (by simp at hq ⊢; omega)
            intro v' w5 ho5 hg5 _
            obtain ⟨a5, c5, e5, _⟩ := ho5.open
            subst e5
            obtain ⟨v', hv'⟩ : ∃ v, v = Value.slice a5 (bs.length + 1) c5 := ⟨_, rfl⟩
            rw [← hv'] at ho5
            have hb5 : w5.heap[b]? = some (.cells #[sl] T (0, 0)) := by
              rw [hg5.block b (by simp; omega) (fun e => by have := (HAP.out.lt b e.symm).1; omega), Below.heap_alloc _ _ _ hzb]
              exact HBK.out
            have k5 : w5.cell? ⟨b, 0, none⟩ = some sl := cells_at hb5 0
            have z5 : w5.frozen? ⟨b, 0, none⟩ = false := by simp [World.frozen?, hb5]
            have HE5 := Lib.hid ((HEA.out.appV HAP.out (by omega) hg5).setCell (p := ⟨b, 0, none⟩) (by show _ ≤ b; omega) hRb v')
            have HW5 : Hid (WordAt R B (w5.setCell ⟨b, 0, none⟩ v') (.pointer (some ⟨b, 0, none⟩)) (bs ++ [3])) := Lib.hid ⟨b, v', T, rfl, hBb, hRb, set1 hb5, by
              have h := ho5.setCell (a := ⟨b, 0, none⟩) (fun e => by have := (ho5.lt _ e).1; simp at this; omega) v'
              simpa using h⟩
            rw [hv'] at HE5 HW5
            clear hb5 ho5 hg5
            go_wp2_with fail
            go_roundg 0
            case measure => omega
            case rel => exact Or.inr ⟨rfl, rfl, HE5.out, HW5.out⟩
          · have HE5 := Lib.hid he
            have HW5 := Lib.hid hw
            clear he hw
            go_wp2_with fail
            go_ret
            exact ⟨_, rfl, HE5.out, HW5.out⟩
      · have e1 : nth [(3 : Int)] i = 3 := by
          obtain rfl : i = 0 := by omega
          rfl
        rw [e1, hbf] at hb
        cases hb

set_option maxRecDepth 100000 in
set_option maxHeartbeats 1000000 in
theorem wlen_any (R : Reg) (B : Nat) (w : World) (v : Value) (bs : List Int) (hw : WordAt R B w v bs) : Calls Try.prog 39 #[v] w fun e w' => e = .returned (.int .i64 (bs.length : Int)) ∧ w' = w := by
  obtain ⟨b, sl, T, rfl, hBb, hRb, hblk, hown⟩ := hw
  obtain ⟨a, c, rfl, _⟩ := hown.open
  have k0 := cells_at hblk 0
  simp at k0
  clear hown hblk
  go_enter Try.func39, Try.ntmps39
  go_wp2_with fail
  go_ret
  exact ⟨rfl, rfl⟩

def wordL (xs : List (Int × Int)) : List Int := xs.foldl (fun bs x => addK bs x.2) []
theorem wordL_succ {xs : List (Int × Int)} {i : Nat} (h : i < xs.length) : wordL (xs.take (i + 1)) = addK (wordL (xs.take i)) (nthS xs i).2 := by
  unfold wordL
  rw [List.take_add_one, List.getElem?_eq_getElem h, List.foldl_append, nthS_get h]
  rfl
theorem wordL_length : ∀ (xs : List (Int × Int)) (i : Nat), i ≤ xs.length → (wordL (xs.take i)).length ≤ i
  | xs, 0, _ => by simp [wordL]
  | xs, i + 1, h => by
    have ih := wordL_length xs i (by omega)
    rw [wordL_succ (by omega)]
    unfold addK
    split
    · omega
    · simp; omega

set_option maxRecDepth 100000 in
set_option maxHeartbeats 2000000 in
theorem word_any (R : Reg) (w : World) (hI : Inv R w) (a : Option Addr) (n cap : Nat) (xs : List (Int × Int)) (hv : FreeS R w (.slice a n cap) xs) (hn : n ≤ 1000000) :
    Calls Try.prog 24 #[.slice a n cap] w fun e w' => ∃ v, e = .returned v ∧ Ev R w R w' ∧ WordAt R w.heap.size w' v (wordL xs) := by
  have HL := Lib.hid hv.length
  have HV := Lib.hid hv
  have HI := Lib.hid hI
  have HE0 := Lib.hid ((Ev.refl hI).alloc (.cells #[nilS] 123))
  have hW0 : WordAt R w.heap.size (w.alloc (.cells #[nilS] 123)) (.pointer (some ⟨w.heap.size, 0, none⟩)) [] :=
    ⟨w.heap.size, nilS, 123, rfl, Nat.le_refl _, hI.none_of_ge (Nat.le_refl _), heap_alloc_new w _, OwnV.nil _ _ _ _ _⟩
  have HW0 := Lib.hid hW0
  clear hv hI hW0
  go_enter Try.func24, Try.ntmps24
  go_wp2_with (go_at_call 82; refine (new_word _).mono ?_; rintro e w' ⟨rfl, rfl⟩)
  obtain ⟨B, hB⟩ : ∃ B, w.heap.size = B := ⟨_, rfl⟩
  rw [hB] at HW0 ⊢
  have HBe := Lib.hid hB
  clear hB
  obtain ⟨w1, hw1⟩ : ∃ w1, w.alloc (.cells #[nilS] 123) = w1 := ⟨_, rfl⟩
  rw [hw1] at HE0 HW0
  try rw [hw1]
  clear hw1
  go_loopg [9] n (fun g v9 wr => ∃ i : Nat, i ≤ n ∧ n - i ≤ g ∧ v9 = .int .i64 (i : Int) ∧ Ev R w R wr ∧ WordAt R B wr (.pointer (some ⟨B, 0, none⟩)) (wordL (xs.take i)))
  case atStart => exact ⟨0, by omega, by omega, rfl, HE0.out, by simpa [wordL] using HW0.out⟩
  case round =>
    obtain ⟨i, hi, hg, rfl, he, hw⟩ := hrel
    have HE := Lib.hid he
    have HW := Lib.hid hw
    clear he hw
    by_cases hil : i < n
    · obtain ⟨gb, off, rfl, hgn, c0, c1⟩ := (HV.out.ev HE.out).at hil
      have hsucc := wordL_succ (xs := xs) (i := i) (by have := HL.out; omega)
      have hlen := wordL_length xs i (by have := HL.out; omega)
      obtain ⟨x, hx⟩ : ∃ x, nthS xs i = x := ⟨_, rfl⟩
      rw [hx] at c0 c1 hsucc
      obtain ⟨d, k⟩ := x
      simp only at c0 c1 hsucc
      have HS := Lib.hid hsucc
      have HLn := Lib.hid hlen
      clear hsucc hlen hx
      have he2 := HE.out.alloc (.cells #[.int .i64 d, .int .i64 k] 41)
      have he3 := he2.alloc (.cells #[.int .i64 k] 3)
      have hw3 := (HW.out.ev ((Ev.refl HE.out.inv).alloc (.cells #[.int .i64 d, .int .i64 k] 41))).ev ((Ev.refl he2.inv).alloc (.cells #[.int .i64 k] 3))
      have hadd := add_one R w R _ he3 B (by have := HBe.out; omega) _ _ hw3 (by have := HLn.out; omega) (wr.heap.size + 1) k (by simp)
      have HA := Lib.hid hadd
      clear he2 he3 hw3 hadd
      go_wp2_with fail
      refine HA.out.mono ?_
      rintro e w5 ⟨r, rfl, he5, hw5⟩
      have HE5 := Lib.hid he5
      have HW5 := Lib.hid hw5
      clear he5 hw5
      go_wp2_with fail
      go_roundg (n - (i + 1))
      case measure => omega
      case rel => exact ⟨i + 1, by omega, by omega, by go_num, HE5.out, by rw [HS.out]; exact HW5.out⟩
    · obtain rfl : i = n := by omega
      go_wp2_with fail
      go_ret
      have e : xs.take i = xs := by rw [HL.out]; exact List.take_length
      have hw := HW.out
      rw [e] at hw
      exact ⟨_, rfl, HE.out, by rw [HBe.out]; exact hw⟩

end Go.Proofs.Ytnbecpeiodcohaa

namespace Go.Proofs.Ytnbecpeiodcohaa
set_option linter.unusedVariables false

def opL (L : List Int) (i : Nat) : Bool := decide (nth L i = 1)
def mateL (op : Nat → Bool) (n i : Nat) : List Int := (List.range n).map fun j => (((stk op i).2 j : Nat) : Int)
def stackL (op : Nat → Bool) (i : Nat) : List Int := toI (stk op i).1.reverse
theorem mateL_length (op : Nat → Bool) (n i : Nat) : (mateL op n i).length = n := by simp [mateL]
theorem mateL_nth {op : Nat → Bool} {n i j : Nat} (h : j < n) : nth (mateL op n i) j = (((stk op i).2 j : Nat) : Int) := by
  simp [mateL, nth, h]
theorem mateL_zero (op : Nat → Bool) (n : Nat) : mateL op n 0 = List.replicate n 0 := by
  refine List.ext_getElem (by simp [mateL]) fun i h1 h2 => ?_
  simp [mateL, stk]
theorem mateL_open {op : Nat → Bool} {n i : Nat} (h : op i = true) : mateL op n (i + 1) = mateL op n i := by
  unfold mateL; rw [stk_open h]
theorem nth_set_if (xs : List Int) (i j : Nat) (y : Int) (hj : j < xs.length) : nth (xs.set i y) j = if i = j then y else nth xs j := by
  by_cases h : i = j
  · subst h
    simp [nth, hj]
  · simp [nth, h]
theorem mateL_close {op : Nat → Bool} {n i o : Nat} {r : List Nat} (h : op i = false) (hs : (stk op i).1 = o :: r) : mateL op n (i + 1) = ((mateL op n i).set i (o : Int)).set o (i : Int) := by
  refine ext_nth (by simp [mateL_length]) fun j hj => ?_
  rw [mateL_length] at hj
  rw [mateL_nth hj, stk_close h hs, nth_set_if _ _ _ _ (by rw [List.length_set, mateL_length]; exact hj), nth_set_if _ _ _ _ (by rw [mateL_length]; exact hj), mateL_nth hj]
  show (((if j = o then i else if j = i then o else (stk op i).2 j : Nat)) : Int) = _
  by_cases h1 : j = o
  · rw [if_pos h1, if_pos h1.symm]
  · have h1' : ¬ o = j := fun e => h1 e.symm
    by_cases h2 : j = i
    · subst h2; simp [h1, h1']
    · have h2' : ¬ i = j := fun e => h2 e.symm
      simp [h1, h1', h2, h2']
theorem stackL_open {op : Nat → Bool} {i : Nat} (h : op i = true) : stackL op (i + 1) = stackL op i ++ [(i : Int)] := by
  unfold stackL; rw [stk_open h]; simp [toI]
theorem stackL_close {op : Nat → Bool} {i o : Nat} {r : List Nat} (h : op i = false) (hs : (stk op i).1 = o :: r) : stackL op i = stackL op (i + 1) ++ [(o : Int)] := by
  unfold stackL; rw [stk_close h hs, hs]; simp [toI]
theorem stk_height (op : Nat → Bool) : ∀ i, (stk op i).1.length ≤ i
  | 0 => Nat.le_refl _
  | i + 1 => by
    have h := stk_height op i
    cases ho : op i with
    | true => rw [stk_open ho]; simp; omega
    | false =>
      cases hs : (stk op i).1 with
      | nil =>
        show ((if op i = true then _ else _ : List Nat × (Nat → Nat))).1.length ≤ _
        rw [if_neg (by simp [ho]), hs]
        simp
      | cons o r =>
        rw [stk_close ho hs]
        rw [hs] at h
        simp at h ⊢
        omega
theorem stackL_length (op : Nat → Bool) (i : Nat) : (stackL op i).length ≤ i := by
  have := stk_height op i
  simp [stackL, toI]
  exact this

end Go.Proofs.Ytnbecpeiodcohaa

namespace Go.Proofs.Ytnbecpeiodcohaa
open Go.RowKit
set_option linter.unusedVariables false

def RetMates (R : Reg) (w : World) (xs : List Int) (n : Nat) (e : Ending) (w' : World) : Prop :=
  ∃ a c v, e = .returned (.tuple #[.slice a n c, v]) ∧ Ev R w R w' ∧ OwnI R w.heap.size 3 w' (.slice a n c) xs
theorem last_app (xs : List Int) (y : Int) : nth (xs ++ [y]) xs.length = y := by simp [nth]

theorem cell_new {w : World} {g : Nat} (hg : w.heap.size = g) (v : Value) (E : TypeId) : (w.alloc (.cells #[v] E)).cell? ⟨g, 0, none⟩ = some v := by
  subst hg; simp

/-- the stack, and the two rows, of one world -/
structure M3 (R : Reg) (w0 w : World) (a6 : Option Addr) (l6 c6 : Nat) (S M Y : List Int) (g4 g5 n : Nat) : Prop where
  ev : Ev R w0 R w
  st : OwnI R w0.heap.size 3 w (.slice a6 l6 c6) S
  m4 : OwnI R w0.heap.size 3 w (.slice (some ⟨g4, 0, none⟩) n n) M
  m5 : OwnI R w0.heap.size 3 w (.slice (some ⟨g5, 0, none⟩) n n) Y
  l4 : M.length = n
  l5 : Y.length = n
  ne : g4 ≠ g5
  ds : ∀ k, (Value.slice a6 l6 c6).ownBlock = some k → k ≠ g4 ∧ k ≠ g5
theorem M3.put5 {R : Reg} {w0 w : World} {a6 : Option Addr} {l6 c6 : Nat} {S M Y : List Int} {g4 g5 n : Nat} (h : M3 R w0 w a6 l6 c6 S M Y g4 g5 n) {i : Nat} (hi : i < n) (y : Int) : M3 R w0 (w.setCell ⟨g5, i, none⟩ (.int .i64 y)) a6 l6 c6 S M (Y.set i y) g4 g5 n where
  ev := h.ev.setCell (h.m5.lt g5 rfl).1 (h.m5.2 g5 rfl) _
  st := h.st.setCell (fun e => (h.ds _ e).2 rfl) _
  m4 := h.m4.setCell (fun e => h.ne (by simpa [Value.ownBlock] using e)) _
  m5 := h.m5.put h.l5 i hi y
  l4 := h.l4
  l5 := by rw [List.length_set]; exact h.l5
  ne := h.ne
  ds := h.ds
theorem M3.put4 {R : Reg} {w0 w : World} {a6 : Option Addr} {l6 c6 : Nat} {S M Y : List Int} {g4 g5 n : Nat} (h : M3 R w0 w a6 l6 c6 S M Y g4 g5 n) {i : Nat} (hi : i < n) (y : Int) : M3 R w0 (w.setCell ⟨g4, i, none⟩ (.int .i64 y)) a6 l6 c6 S (M.set i y) Y g4 g5 n where
  ev := h.ev.setCell (h.m4.lt g4 rfl).1 (h.m4.2 g4 rfl) _
  st := h.st.setCell (fun e => (h.ds _ e).1 rfl) _
  m4 := h.m4.put h.l4 i hi y
  m5 := h.m5.setCell (fun e => h.ne (by simpa [Value.ownBlock] using e.symm)) _
  l4 := by rw [List.length_set]; exact h.l4
  l5 := h.l5
  ne := h.ne
  ds := h.ds
theorem M3.alloc {R : Reg} {w0 w : World} {a6 : Option Addr} {l6 c6 : Nat} {S M Y : List Int} {g4 g5 n : Nat} (h : M3 R w0 w a6 l6 c6 S M Y g4 g5 n) (o : Obj) : M3 R w0 (w.alloc o) a6 l6 c6 S M Y g4 g5 n where
  ev := h.ev.alloc o
  st := h.st.alloc o
  m4 := h.m4.alloc o
  m5 := h.m5.alloc o
  l4 := h.l4
  l5 := h.l5
  ne := h.ne
  ds := h.ds
theorem M3.pop {R : Reg} {w0 w : World} {a6 : Option Addr} {l6 c6 : Nat} {S M Y : List Int} {g4 g5 n : Nat} {y : Int} (h : M3 R w0 w a6 l6 c6 (S ++ [y]) M Y g4 g5 n) : M3 R w0 w a6 (l6 - 1) c6 S M Y g4 g5 n where
  ev := h.ev
  st := h.st.pop
  m4 := h.m4
  m5 := h.m5
  l4 := h.l4
  l5 := h.l5
  ne := h.ne
  ds := fun k e => by
    cases a6 with
    | none => cases e
    | some a => exact h.ds k e
theorem M3.app {R : Reg} {w0 w w1 : World} {a6 : Option Addr} {l6 c6 : Nat} {S S1 M Y : List Int} {g4 g5 n : Nat} (h : M3 R w0 w a6 l6 c6 S M Y g4 g5 n) {a8 : Option Addr} {l8 c8 : Nat} (ho : OwnI R w0.heap.size 3 w1 (.slice a8 l8 c8) S1) (hg : w.grownBy w1 (Value.slice a6 l6 c6).ownBlock) (hs : ∀ k, (Value.slice a8 l8 c8).ownBlock = some k → (Value.slice a6 l6 c6).ownBlock = some k ∨ w.heap.size ≤ k) : M3 R w0 w1 a8 l8 c8 S1 M Y g4 g5 n where
  ev := h.ev.app h.st (Nat.le_refl _) hg
  st := ho
  m4 := h.m4.kept hg (Or.inr fun e => (h.ds _ e.symm).1 rfl)
  m5 := h.m5.kept hg (Or.inr fun e => (h.ds _ e.symm).2 rfl)
  l4 := h.l4
  l5 := h.l5
  ne := h.ne
  ds := fun k e => by
    rcases hs k e with e | e
    · exact h.ds k e
    · have h4 := (h.m4.lt g4 rfl).2
      have h5 := (h.m5.lt g5 rfl).2
      omega
theorem M3.at4 {R : Reg} {w0 w : World} {a6 : Option Addr} {l6 c6 : Nat} {S M Y : List Int} {g4 g5 n : Nat} (h : M3 R w0 w a6 l6 c6 S M Y g4 g5 n) {i : Nat} (hi : i < n) : w.cell? ⟨g4, i, none⟩ = some (.int .i64 (nth M i)) ∧ w.frozen? ⟨g4, i, none⟩ = false := by
  obtain ⟨_, e, _, _, h1, h2⟩ := h.m4.headAt h.l4 hi
  cases e
  exact ⟨h1, h2⟩
theorem M3.at5 {R : Reg} {w0 w : World} {a6 : Option Addr} {l6 c6 : Nat} {S M Y : List Int} {g4 g5 n : Nat} (h : M3 R w0 w a6 l6 c6 S M Y g4 g5 n) {i : Nat} (hi : i < n) : w.cell? ⟨g5, i, none⟩ = some (.int .i64 (nth Y i)) ∧ w.frozen? ⟨g5, i, none⟩ = false := by
  obtain ⟨_, e, _, _, h1, h2⟩ := h.m5.headAt h.l5 hi
  cases e
  exact ⟨h1, h2⟩
/-- the last one that is open -/
theorem M3.top {R : Reg} {w0 w : World} {a6 : Option Addr} {l6 c6 : Nat} {S M Y : List Int} {y : Int} {g4 g5 n : Nat} (h : M3 R w0 w a6 l6 c6 (S ++ [y]) M Y g4 g5 n) : ∃ m g6, l6 = m + 1 ∧ S.length = m ∧ a6 = some ⟨g6, 0, none⟩ ∧ m + 1 ≤ c6 ∧ g6 ≠ g4 ∧ g6 ≠ g5 ∧ w.cell? ⟨g6, m, none⟩ = some (.int .i64 y) := by
  have hl := h.st.ints.length_eq
  have hl : l6 = S.length + 1 := by rw [hl]; simp
  obtain ⟨g, e, _, _, h1, _⟩ := h.st.headAt (i := S.length) (by rw [hl]; simp) (by omega)
  rw [last_app] at h1
  subst e
  obtain ⟨a', cap', e, hc, _⟩ := h.st.ints
  cases e
  exact ⟨S.length, g, hl, rfl, rfl, by simp at hc; omega, (h.ds g rfl).1, (h.ds g rfl).2, h1⟩

set_option maxRecDepth 100000 in
set_option maxHeartbeats 2000000 in
theorem r3mates_any (R : Reg) (w : World) (hI : Inv R w) (v : Value) (L : List Int) (hv : FreeI R w v L) (hn : L.length ≤ 1000000) (op : Nat → Bool) (hop : ∀ i, i < L.length → (op i = true ↔ nth L i = 1)) (hne : ∀ i, i < L.length → op i = false → (stk op i).1 ≠ []) :
    Calls Try.prog 101 #[v] w (RetMates R w (mateL op L.length L.length) L.length) := by
  obtain ⟨a0, cap0, rfl, hv⟩ := hv.open
  obtain ⟨n, hl⟩ : ∃ n, L.length = n := ⟨_, rfl⟩
  rw [hl] at hv hop hne hn ⊢
  have HL := Lib.hid hl
  have HV := Lib.hid hv
  have HOp := Lib.hid hop
  have HNe := Lib.hid hne
  have HI := Lib.hid hI
  obtain ⟨i0, hi, hz0, hz1, hz2⟩ := info_parts int_info
  clear hl hv hop hI hne
  go_enter Try.func101, Try.ntmps101
  go_wp2_with fail
  obtain ⟨o1, ho1⟩ : ∃ o, Obj.cells (madeCells #[Value.int .i64 0] (n * 1)) 3 = o := ⟨_, rfl⟩
  have hms1 := make_eq (n := n) Try.underlying25 hi hz0 hz1 (by rw [hz2]; omega) (by unfold maxLen; omega)
  have HO1 := Lib.hid (fun (W : World) hI hB => rowI_made (R := R) (W := W) (B := w.heap.size) (n := n) hI hB (by unfold maxLen; omega))
  simp only [Value.cells, ho1] at hms1 HO1
  clear ho1
  have HE0 := Lib.hid (Ev.refl HI.out)
  go_cut [4, 5] (fun s4 s5 wx => ∃ g4 g5, s4 = .slice (some ⟨g4, 0, none⟩) n n ∧ s5 = .slice (some ⟨g5, 0, none⟩) n n ∧ g4 ≠ g5 ∧ Ev R w R wx ∧ OwnI R w.heap.size 3 wx (.slice (some ⟨g4, 0, none⟩) n n) (List.replicate n 0) ∧ OwnI R w.heap.size 3 wx (.slice (some ⟨g5, 0, none⟩) n n) (List.replicate n 0))
  case first =>
    go_region_with fail
    all_goals (go_wp2_with fail; go_meet)
    all_goals first
      | (refine ⟨_, _, rfl, rfl, ?_, ((HE0.out.alloc o1).alloc o1).drew, ((HO1.out _ HE0.out.inv HE0.out.size).alloc o1).drew, ?_⟩
         · simp
         · have := (HO1.out _ (HE0.out.alloc o1).inv (HE0.out.alloc o1).size).drew
           simpa using this)
      | (refine ⟨_, _, rfl, rfl, ?_, ((HE0.out.alloc o1).alloc o1).drew, ?_, ((HO1.out _ HE0.out.inv HE0.out.size).alloc o1).drew⟩
         · simp
         · have := (HO1.out _ (HE0.out.alloc o1).inv (HE0.out.alloc o1).size).drew
           simpa using this)
  case rest =>
    obtain ⟨g4, g5, rfl, rfl, hne45, he, ho4, ho5⟩ := hcut
    have HM0 := Lib.hid (M3.mk (a6 := none) (l6 := 0) (c6 := 0) he (OwnI.nil R _ _ _) ho4 ho5 (by simp) (by simp) hne45 fun k h => by cases h)
    clear he ho4 ho5 hms1 HO1 HE0 hne45
    go_wp2_with fail
    go_loopg [6, 18] n (fun g v6 v18 wr => ∃ (i : Nat) (a6 : Option Addr) (l6 c6 : Nat) (Y : List Int), i ≤ n ∧ n - i ≤ g ∧ v18 = .int .i64 (i : Int) ∧ v6 = .slice a6 l6 c6 ∧ M3 R w wr a6 l6 c6 (stackL op i) (mateL op n i) Y g4 g5 n)
    case atStart => exact ⟨0, none, 0, 0, List.replicate n 0, Nat.zero_le _, by omega, rfl, rfl, by rw [mateL_zero]; exact HM0.out⟩
    case round =>
      obtain ⟨i, a6, l6, c6, Y, hi, hg, rfl, rfl, hm⟩ := hrel
      have HM := Lib.hid hm
      clear hm
      by_cases hil : i < n
      · obtain ⟨bS, oS, rfl, hc⟩ := (HV.out.ev HM.out.ev).1.cell (i := i) (by rw [HL.out]; exact hil)
        obtain ⟨hc5, hz5⟩ := HM.out.at5 hil
        have hop := HOp.out i hil
        obtain ⟨k, hkx⟩ : ∃ k, nth L i = k := ⟨_, rfl⟩
        rw [hkx] at hc hop
        clear hkx
        have hsl := stackL_length op i
        by_cases hk : k = 1
        · subst hk
          have ho := hop.2 rfl
          have hst := stackL_open ho
          have hmt := mateL_open (n := n) ho
          have HST := Lib.hid hst
          have HMT := Lib.hid hmt
          have HSL := Lib.hid hsl
          clear hop ho hst hmt hsl
          rcases List.eq_nil_or_concat (stackL op i) with hs6 | ⟨S, y, hs6⟩
          · have hl6 : l6 = 0 := by rw [HM.out.st.ints.length_eq, hs6]; rfl
            subst hl6
            clear hs6
            have HMa := Lib.hid ((HM.out.put5 hil (-1)).alloc (.cells #[.int .i64 (i : Int)] 3))
            go_wp2_with (at_builtin; refine wpList_app_int (R := R) (B := w.heap.size) rfl _ _ rfl HMa.out.st rfl ⟨wr.heap.size, 0, none⟩ 1 (i : Int) ?a0 ?a1 ?a2 ?a3 ?a4 ?_)
            case a0 => first | rfl | simp
            case a1 => exact cell_new (by simp) _ _
            case a2 => have := HSL.out; omega
            case a3 => have := HM.out.ev.size; simp; omega
            case a4 => exact fun q hq => HMa.out.ev.inv.none_of_ge (by simp at hq ⊢; omega)
            intro v8 w6 ho8 hg6 hs6
            obtain ⟨a8, c8, rfl, _⟩ := ho8.ints.open
            obtain ⟨l8, hl8⟩ : ∃ l, (stackL op i ++ [(i : Int)]).length = l := ⟨_, rfl⟩
            rw [hl8] at ho8 hs6
            try rw [hl8]
            clear hl8
            have HM8 := Lib.hid (HMa.out.app ho8 hg6 fun k e => by have := hs6 k e; simpa using this)
            clear ho8 hg6 hs6
            go_wp2_with fail
            go_roundg (n - (i + 1))
            case measure => omega
            case rel => exact ⟨i + 1, a8, l8, c8, (Y.set i (-1)), by omega, by omega, by go_num, rfl, by rw [HST.out, HMT.out]; exact HM8.out⟩
          · rw [List.concat_eq_append] at hs6
            have HMs := HM.out
            rw [hs6] at HMs
            obtain ⟨m, g6, rfl, hm6, rfl, hcap, h64, h65, hc6⟩ := HMs.top
            have HMa := Lib.hid (((HM.out.put5 hil (-1)).put5 hil y).alloc (.cells #[.int .i64 (i : Int)] 3))
            clear HMs
            have hm1 : m ≤ 1000000 := by have := HSL.out; rw [hs6] at this; simp at this; omega
            clear hs6
            have hw : IntKind.i64.wrap ((m : Int) + 1 - 1) = (m : Int) := by
              rw [show ((m : Int) + 1 - 1) = (m : Int) by omega]; exact IntWalk.i64_in _ (by omega)
            go_wp2_with (at_builtin; refine wpList_app_int (R := R) (B := w.heap.size) rfl _ _ rfl HMa.out.st rfl ⟨wr.heap.size, 0, none⟩ 1 (i : Int) ?a0 ?a1 ?a2 ?a3 ?a4 ?_)
            case a0 => first | rfl | simp
            case a1 => exact cell_new (by simp) _ _
            case a2 => have := HSL.out; omega
            case a3 => have := HM.out.ev.size; simp; omega
            case a4 => exact fun q hq => HMa.out.ev.inv.none_of_ge (by simp at hq ⊢; omega)
            intro v8 w6 ho8 hg6 hs6
            obtain ⟨a8, c8, rfl, _⟩ := ho8.ints.open
            obtain ⟨l8, hl8⟩ : ∃ l, (stackL op i ++ [(i : Int)]).length = l := ⟨_, rfl⟩
            rw [hl8] at ho8 hs6
            try rw [hl8]
            clear hl8
            have HM8 := Lib.hid (HMa.out.app ho8 hg6 fun k e => by have := hs6 k e; simpa using this)
            clear ho8 hg6 hs6
            go_wp2_with fail
            go_roundg (n - (i + 1))
            case measure => omega
            case rel => exact ⟨i + 1, a8, l8, c8, ((Y.set i (-1)).set i y), by omega, by omega, by go_num, rfl, by rw [HST.out, HMT.out]; exact HM8.out⟩
        · have ho : op i = false := by
            cases h : op i with
            | true => exact absurd (hop.1 h) hk
            | false => rfl
          obtain ⟨o, r, hs⟩ : ∃ o r, (stk op i).1 = o :: r := by
            cases h : (stk op i).1 with
            | nil => exact absurd h (HNe.out i hil ho)
            | cons o r => exact ⟨o, r, rfl⟩
          have hoi : o < i := (stk_desc (op := op) i).2 o (by rw [hs]; exact List.mem_cons_self)
          have hon : o < n := by omega
          have hst := stackL_close ho hs
          have HMT := Lib.hid (mateL_close (n := n) ho hs)
          have HMs := HM.out
          rw [hst] at HMs
          obtain ⟨m, g6, rfl, hm6, rfl, hcap, h64, h65, hc6⟩ := HMs.top
          have hm1 : m ≤ 1000000 := by rw [hst] at hsl; simp at hsl; omega
          have HMp := Lib.hid (((HMs.pop.put4 hil (o : Int)).put4 hon (i : Int)).put5 hil (nth Y o))
          obtain ⟨hc4i, hz4i⟩ := HM.out.at4 hil
          obtain ⟨hc4o, hz4o⟩ := HM.out.at4 hon
          obtain ⟨hc5o, hz5o⟩ := HM.out.at5 hon
          have hne4 := HM.out.ne
          have hio : ¬ i = o := by omega
          have hw : IntKind.i64.wrap ((m : Int) + 1 - 1) = (m : Int) := by
            rw [show ((m : Int) + 1 - 1) = (m : Int) by omega]; exact IntWalk.i64_in _ (by omega)
          clear HMs hst hs ho hop hsl
          go_wp2_with fail
          go_roundg (n - (i + 1))
          case measure => omega
          case rel => exact ⟨i + 1, _, _, _, Y.set i (nth Y o), by omega, by omega, by go_num, rfl, by rw [HMT.out]; exact HMp.out⟩
      · obtain rfl : i = n := by omega
        go_wp2_with fail
        go_ret2
        exact ⟨_, _, _, rfl, HM.out.ev, HM.out.m4⟩

end Go.Proofs.Ytnbecpeiodcohaa

namespace Go.Proofs.Ytnbecpeiodcohaa
open Go.RowKit
set_option linter.unusedVariables false

/-- a sort's places, how many, and who is matched -/
def plS (L : List Int) (s : Nat) : List Nat := srt (sS L s) L.length
def stS (L : List Int) (s : Nat) : Nat → Nat := (stk (opL (ownL L s L.length)) (plS L s).length).2
def DoneS (L : List Int) (s i : Nat) (X : List Int) : Prop := ∀ j, j < i → nth X ((plS L s).getD j 0) = (((plS L s).getD (stS L s j) 0 : Nat) : Int)
theorem plS_lt {L : List Int} {s i : Nat} (h : i < (plS L s).length) : (plS L s).getD i 0 < L.length := (srt_get h).1
theorem DoneS.step {L X : List Int} {s i : Nat} (h : DoneS L s i X) (hX : X.length = L.length) (hi : i < (plS L s).length) : DoneS L s (i + 1) (X.set ((plS L s).getD i 0) (((plS L s).getD (stS L s i) 0 : Nat) : Int)) := by
  intro j hj
  rw [nth_set_if _ _ _ _ (by rw [hX]; exact plS_lt (by omega))]
  by_cases e : j = i
  · subst e; rw [if_pos rfl]
  · rw [if_neg (fun e2 => e (srt_inj (S := sS L s) (P := L.length) (by show j < (plS L s).length; omega) hi e2.symm))]
    exact h j (by omega)
theorem DoneS.other {L X : List Int} {s t i : Nat} {y : Int} (h : DoneS L t (plS L t).length X) (hX : X.length = L.length) (hi : i < (plS L s).length) (hne : t ≠ s) : DoneS L t (plS L t).length (X.set ((plS L s).getD i 0) y) := by
  intro j hj
  rw [nth_set_if _ _ _ _ (by rw [hX]; exact plS_lt hj), if_neg, h j hj]
  intro e
  have h1 := (srt_get hj).2
  have h2 := (srt_get hi).2
  rw [show (srt (sS L s) L.length).getD i 0 = (srt (sS L t) L.length).getD j 0 from e] at h2
  simp only [sS, decide_eq_true_eq] at h1 h2
  omega

def RetMs (R : Reg) (w : World) (L : List Int) (e : Ending) (w' : World) : Prop :=
  ∃ a c X, e = .returned (.slice a L.length c) ∧ Ev R w R w' ∧ X.length = L.length ∧ (∀ s, s < 2 → DoneS L s (plS L s).length X) ∧ OwnI R w.heap.size 3 w' (.slice a L.length c) X

set_option maxRecDepth 100000 in
set_option maxHeartbeats 2000000 in
theorem r4mates_any (R : Reg) (w : World) (hI : Inv R w) (v : Value) (L : List Int) (hv : FreeI R w v L) (hk : ∀ i, i < L.length → 0 ≤ nth L i ∧ nth L i ≤ 3) (hn : L.length ≤ 1000000) (u : Nat → Nat → Nat) (hp : ∀ s, s < 2 → Pairing (plS L s).length (opL (ownL L s L.length)) (u s)) :
    Calls Try.prog 53 #[v] w (RetMs R w L) := by
  obtain ⟨a0, cap0, rfl, hv⟩ := hv.open
  obtain ⟨n, hl⟩ : ∃ n, L.length = n := ⟨_, rfl⟩
  have HL := Lib.hid hl
  have HV := Lib.hid hv
  have HK := Lib.hid hk
  have HP := Lib.hid hp
  have HI := Lib.hid hI
  obtain ⟨i0, hi, hz0, hz1, hz2⟩ := info_parts int_info
  have hSo := fun (w' : World) (he : Ev R w R w') s hs => rsort_any R w' he.inv _ L (hv.ev he) hk hn s hs
  rw [hl] at hSo ⊢
  have HSo := Lib.hid hSo
  rw [hl] at hn
  clear hl hv hk hI hp hSo
  go_enter Try.func53, Try.ntmps53
  go_wp2_with (refine wpList_make_full _ rfl _ _ 25 rfl w.heap.size 3 i0 (.int .i64 0) 1 Try.underlying25 hi hz0 hz1 .i64 .i64 (n : Int) (n : Int) n rfl rfl rfl rfl ?q1 ?q2 (Nat.le_refl _) ?_)
  case q1 => rw [hz2]; omega
  case q2 => unfold maxLen; omega
  intro w1 ho1 hg1
  have hown : OwnI R w.heap.size 3 w1 (.slice (some ⟨w.heap.size, 0, none⟩) n n) (List.replicate n 0) := OwnI.made HI.out ho1
  have he1 : Ev R w R w1 := (Ev.refl HI.out).grown hg1 (by simp)
  have HO1 := Lib.hid hown
  have HE1 := Lib.hid he1
  clear ho1 hg1 hown he1
  go_wp2_with fail
  obtain ⟨g3, hg3⟩ : ∃ g, w.heap.size = g := ⟨_, rfl⟩
  rw [hg3] at HO1 ⊢
  have HG3 := Lib.hid hg3
  go_loopg [4] 2 (fun g v4 wr => ∃ (s : Nat) (X : List Int), s ≤ 2 ∧ 2 - s ≤ g ∧ v4 = .int .i64 (s : Int) ∧ X.length = n ∧ (∀ t, t < s → DoneS L t (plS L t).length X) ∧ Ev R w R wr ∧ OwnI R g3 3 wr (.slice (some ⟨g3, 0, none⟩) n n) X)
  case atStart => exact ⟨0, List.replicate n 0, Nat.zero_le _, by omega, rfl, by simp, fun t ht => by omega, HE1.out, HO1.out⟩
  case round =>
    obtain ⟨s, X, hs, hg, rfl, hX, hd, he, ho⟩ := hrel
    have HE := Lib.hid he
    have HO := Lib.hid ho
    have HX := Lib.hid hX
    have HD := Lib.hid hd
    clear he ho hX hd
    by_cases hs2 : s < 2
    · have hs01 : ((s : Nat) : Int) = 0 ∨ ((s : Nat) : Int) = 1 := by omega
      have hpl : (plS L s).length = (srt (sS L s) n).length := by unfold plS; rw [HL.out]
      have hol : (ownL L s n).length = (plS L s).length := by rw [ownL_length, hpl]
      have hal : (atL L s n).length = (plS L s).length := by rw [atL_length, hpl]
      have hat : ∀ i, nth (atL L s n) i = (((plS L s).getD i 0 : Nat) : Int) := fun i => by
        unfold atL plS; rw [HL.out, toI_nth]; rfl
      have hql : (plS L s).length ≤ n := by rw [hpl]; exact srt_le _ _
      have hpr := HP.out s hs2
      rw [HL.out] at hpr
      have hst : stS L s = (stk (opL (ownL L s n)) (plS L s).length).2 := by unfold stS; rw [HL.out]
      have hplt : ∀ i, i < (plS L s).length → (plS L s).getD i 0 < n := fun i h => by have := plS_lt h; rw [HL.out] at this; exact this
      have hstp := fun (i : Nat) (X : List Int) (h : DoneS L s i X) (hX : X.length = n) => h.step (by rw [hX, HL.out])
      have hoth := fun (t i : Nat) (y : Int) (X : List Int) (h : DoneS L t (plS L t).length X) (hX : X.length = n) hi hne => h.other (s := s) (i := i) (y := y) (by rw [hX, HL.out]) hi hne
      obtain ⟨q, hq⟩ : ∃ q, (plS L s).length = q := ⟨_, rfl⟩
      rw [hq] at hol hal hql hpr hst hplt hstp hoth
      have hbd := stk_bd hpr
      have hne := stk_ne hpr
      rw [← hst] at hbd
      have hmt : ∀ i, i < q → nth (mateL (opL (ownL L s n)) q q) i = ((stS L s i : Nat) : Int) := fun i h => by rw [mateL_nth h, hst]
      have HQ := Lib.hid hq
      have HOL := Lib.hid hol
      have HAL := Lib.hid hal
      have HAT := Lib.hid hat
      have HNE := Lib.hid hne
      have HBD := Lib.hid hbd
      have HMV := Lib.hid hmt
      have HPL := Lib.hid hplt
      have HSP := Lib.hid hstp
      have HOT := Lib.hid hoth
      clear hq hpl hol hal hat hpr hst hbd hne hmt hplt hstp hoth
      go_wp2_with fail
      refine (HSo.out _ HE.out (s : Int) hs01).mono ?_
      rintro e w2 ⟨aO, aA, cO, cA, rfl, he2, hoO, hoA⟩
      rw [HOL.out] at hoO ⊢
      rw [HAL.out] at hoA ⊢
      have HE2 := Lib.hid (HE.out.trans he2)
      have HO2 := Lib.hid (HO.out.ev he2)
      have HOO := Lib.hid hoO
      have HOA := Lib.hid hoA
      clear he2 hoO hoA
      go_wp2_with fail
      have hm := r3mates_any R w2 HE2.out.inv _ (ownL L s n) HOO.out.free (by rw [HOL.out]; omega) (opL (ownL L s n)) (fun i _ => by simp [opL]) (by rw [HOL.out]; exact HNE.out)
      rw [HOL.out] at hm
      refine hm.mono ?_
      rintro e w3 ⟨aM, cM, vR, rfl, he3, hoM⟩
      have HE3 := Lib.hid (HE2.out.trans he3)
      have HO3 := Lib.hid (HO2.out.ev he3)
      have HOA3 := Lib.hid (HOA.out.ev he3)
      have HOM := Lib.hid hoM
      have hg3r : g3 < wr.heap.size := (HO.out.lt g3 rfl).2
      have hg32 : g3 < w2.heap.size := (HO2.out.lt g3 rfl).2
      clear hm he3 hoM HOA HOO
      have HD3 : Hid (DoneS L s 0 X) := Lib.hid fun j hj => by omega
      go_wp2_with fail
      go_loopg [31] q (fun g v31 wi => ∃ (i : Nat) (X : List Int), i ≤ q ∧ q - i ≤ g ∧ v31 = .int .i64 (i : Int) ∧ X.length = n ∧ DoneS L s i X ∧ (∀ t, t < s → DoneS L t (plS L t).length X) ∧ Ev R w R wi ∧ OwnI R g3 3 wi (.slice (some ⟨g3, 0, none⟩) n n) X ∧ OwnI R wr.heap.size 3 wi (.slice aA q cA) (atL L s n) ∧ OwnI R w2.heap.size 3 wi (.slice aM q cM) (mateL (opL (ownL L s n)) q q))
      case atStart => exact ⟨0, X, Nat.zero_le _, by omega, rfl, HX.out, HD3.out, HD.out, HE3.out, HO3.out, HOA3.out, HOM.out⟩
      case round =>
        clear HD3 HD HX
        obtain ⟨i, X, hiq, hg, rfl, hX, hD3, hD, he, ho, hoA, hoM⟩ := hrel
        have HX := Lib.hid hX
        have HDt := Lib.hid hD
        have HDi := Lib.hid hD3
        have HEi := Lib.hid he
        have HOi := Lib.hid ho
        have HAi := Lib.hid hoA
        have HMi := Lib.hid hoM
        clear hX hD3 hD he ho hoA hoM
        by_cases hil : i < q
        · obtain ⟨gA, rfl, hgA, _, hcA, _⟩ := HAi.out.headAt HAL.out hil
          have hb := HBD.out i hil
          obtain ⟨_, eA, _, _, hcA2, _⟩ := HAi.out.headAt HAL.out hb
          cases eA
          obtain ⟨gM, rfl, hgM, _, hcM, _⟩ := HMi.out.headAt (mateL_length _ _ _) hil
          rw [HAT.out] at hcA hcA2
          rw [HMV.out i hil] at hcM
          have hk1 := HPL.out i hil
          have HS1 := Lib.hid (HSP.out i X HDi.out HX.out hil)
          have HT1 := Lib.hid (fun t ht => HOT.out t i (((plS L s).getD (stS L s i) 0 : Nat) : Int) X (HDt.out t ht) HX.out hil (by omega))
          obtain ⟨k, hkk⟩ : ∃ k, (plS L s).getD i 0 = k := ⟨_, rfl⟩
          obtain ⟨m, hmm⟩ : ∃ k, stS L s i = k := ⟨_, rfl⟩
          rw [hmm] at hcA2 hcM hb HS1 HT1
          obtain ⟨y, hyy⟩ : ∃ k, (plS L s).getD m 0 = k := ⟨_, rfl⟩
          rw [hkk] at hcA hk1 HS1 HT1
          rw [hyy] at hcA2 HS1 HT1
          clear hkk hmm hyy
          obtain ⟨_, e3, hB3, hR3, hc3, hz3⟩ := HOi.out.headAt HX.out hk1
          cases e3
          go_wp2_with fail
          go_roundg (q - (i + 1))
          case measure => omega
          case rel => exact ⟨i + 1, X.set k (y : Int), by omega, by omega, by go_num, by rw [List.length_set]; exact HX.out, HS1.out, HT1.out, HEi.out.setCell (by show w.heap.size ≤ g3; rw [HG3.out]; exact Nat.le_refl _) hR3 _, HOi.out.put HX.out k hk1 _, HAi.out.setCell (fun e => by simp [Value.ownBlock] at e; omega) _, HMi.out.setCell (fun e => by simp [Value.ownBlock] at e; omega) _⟩
        · obtain rfl : i = q := by omega
          go_wp2_with fail
          go_roundg (2 - (s + 1))
          case measure => omega
          case rel =>
            refine ⟨s + 1, X, by omega, by omega, by go_num, HX.out, fun t ht => ?_, HEi.out, HOi.out⟩
            by_cases e : t = s
            · subst e
              rw [HQ.out]
              exact HDi.out
            · exact HDt.out t (by omega)
    · obtain rfl : s = 2 := by omega
      go_wp2_with fail
      go_ret
      refine ⟨_, _, X, by rw [HL.out]; rfl, HE.out, by rw [HX.out, HL.out], fun t ht => HD.out t ht, ?_⟩
      rw [HL.out, HG3.out]
      exact HO.out

end Go.Proofs.Ytnbecpeiodcohaa

namespace Go.Proofs.Ytnbecpeiodcohaa
set_option linter.unusedVariables false

/-- the walk's kinds -/
def kindL (s : List Nat) (V root n : Nat) : List Int := (List.range n).map fun j => ((wk s V root j : Nat) : Int)
theorem kindL_length (s : List Nat) (V root n : Nat) : (kindL s V root n).length = n := by simp [kindL]
theorem kindL_succ (s : List Nat) (V root n : Nat) : kindL s V root (n + 1) = kindL s V root n ++ [((wk s V root n : Nat) : Int)] := by simp [kindL, List.range_succ]
theorem kindL_nth {s : List Nat} {V root n j : Nat} (h : j < n) : nth (kindL s V root n) j = ((wk s V root j : Nat) : Int) := by simp [kindL, nth, h]

theorem stk_congr {op op' : Nat → Bool} : ∀ i, (∀ j, j < i → op j = op' j) → stk op i = stk op' i
  | 0, _ => rfl
  | i + 1, h => by
    have ih := stk_congr i fun j hj => h j (by omega)
    unfold stk
    rw [ih, h i (by omega)]
theorem srt_congr {S S' : Nat → Bool} {n : Nat} (h : ∀ j, j < n → S j = S' j) : srt S n = srt S' n := List.filter_congr fun j hj => h j (List.mem_range.1 hj)

section
variable {s : List Nat} (hs : IsPerm s) (he : s.length % 2 = 0) {V root : Nat} (hr : root < s.length) (hV : (sizesL s).length ≤ V)

def wS (s : List Nat) (V root k j : Nat) : Bool := decide (wk s V root j / 2 = k)
def wO (s : List Nat) (V root j : Nat) : Bool := decide (wk s V root j % 2 = 0)
theorem plS_kind (s : List Nat) (V root k n : Nat) : plS (kindL s V root n) k = srt (wS s V root k) n := by
  unfold plS
  rw [kindL_length]
  refine srt_congr fun j hj => ?_
  unfold sS wS
  rw [kindL_nth hj]
  by_cases h : wk s V root j / 2 = k
  · rw [decide_eq_true h, decide_eq_true (by omega)]
  · rw [decide_eq_false h, decide_eq_false (by omega)]
theorem opL_kind {k n i : Nat} (hi : i < (srt (wS s V root k) n).length) : opL (ownL (kindL s V root n) k (kindL s V root n).length) i = wO s V root ((srt (wS s V root k) n).getD i 0) := by
  have hp := plS_kind s V root k n
  unfold plS at hp
  have hl := (srt_get hi).1
  unfold opL ownL wO
  rw [hp]
  have e : nth ((srt (wS s V root k) n).map fun j => 1 - nth (kindL s V root n) j % 2) i = 1 - nth (kindL s V root n) ((srt (wS s V root k) n).getD i 0) % 2 := by
    simp [nth, hi]
  rw [e, kindL_nth hl]
  by_cases h : wk s V root ((srt (wS s V root k) n).getD i 0) % 2 = 0
  · rw [decide_eq_true h, decide_eq_true (by omega)]
  · rw [decide_eq_false h, decide_eq_false (by omega)]

theorem stS_kind (s : List Nat) (V root n k : Nat) : stS (kindL s V root n) k = (stk (fun i => wO s V root ((srt (wS s V root k) n).getD i 0)) (srt (wS s V root k) n).length).2 := by
  unfold stS
  rw [plS_kind, stk_congr _ fun j hj => opL_kind hj]

include hs he hr hV
theorem wop {k : Nat} : ∀ j, j < partC' s root → wS s V root k j = true → (wO s V root j = true ↔ j < wm s V root j) := fun j hj _ => by
  rw [← (wm_pair hs he hr hV hj).2.2.2]
  simp [wO]
theorem kpair (k : Nat) : Pairing (plS (kindL s V root (partC' s root)) k).length (opL (ownL (kindL s V root (partC' s root)) k (kindL s V root (partC' s root)).length)) (ixm (srt (wS s V root k) (partC' s root)) (wm s V root)) := by
  rw [plS_kind]
  have h := pairing_srt (wm_pmatch hs he hr hV k) (op := wO s V root) (wop hs he hr hV)
  exact ⟨h.lt, h.inv, h.ne, fun i hi => by rw [opL_kind hi]; exact h.op_iff i hi⟩
theorem ncTo_iff (k : Nat) : NcTo (partC' s root) (sortP s V root k) (wm s V root) (partC' s root) ↔ ∀ x y, x < partC' s root → y < partC' s root → wS s V root k x = true → wS s V root k y = true → x < y → y < wm s V root x → x < wm s V root y ∧ wm s V root y < wm s V root x := by
  constructor
  · intro h x y hx hy sx sy hxy hyu
    exact h x y (by simpa [wS, sortP] using sx) (by simpa [wS, sortP] using sy) hxy hyu (wm_spec hs he hr hV hx).1 (wm_spec hs he hr hV hy).1
  · intro h x y sx sy hxy hyu h1 h2
    have hy : y < partC' s root := by omega
    exact h x y (by omega) hy (by simpa [wS, sortP] using sx) (by simpa [wS, sortP] using sy) hxy hyu

theorem plane_word {c : Nat} (hc : c < partsN s) (e : nth (partsL s) root = (c : Int)) {X : List Int} (hd : ∀ t, t < 2 → DoneS (kindL s V root (partC' s root)) t (plS (kindL s V root (partC' s root)) t).length X) :
    (∀ j, j < partC' s root → ∃ i, i < partC' s root ∧ nth X j = (i : Int)) ∧ ((∀ j, j < partC' s root → wd s V root (nth X j).toNat = wd s V root j ^^^ 1) ↔ genOf s (partsL s) c = 0) := by
  have hd : ∀ t, t < 2 → ∀ i, i < (srt (wS s V root t) (partC' s root)).length → nth X ((srt (wS s V root t) (partC' s root)).getD i 0) = (((srt (wS s V root t) (partC' s root)).getD (stS (kindL s V root (partC' s root)) t i) 0 : Nat) : Int) := fun t ht i hi => by
    have h := hd t ht
    rw [plS_kind] at h
    have := h i hi
    rwa [plS_kind] at this
  have hbd : ∀ t i, i < (srt (wS s V root t) (partC' s root)).length → stS (kindL s V root (partC' s root)) t i < (srt (wS s V root t) (partC' s root)).length := fun t i hi => by
    have h := stk_bd (kpair hs he hr hV t)
    rw [plS_kind] at h
    have := h i hi
    unfold stS
    rwa [plS_kind]
  have hwk := wk_le s V root
  have hfind : ∀ j, j < partC' s root → ∃ t i, t < 2 ∧ i < (srt (wS s V root t) (partC' s root)).length ∧ (srt (wS s V root t) (partC' s root)).getD i 0 = j := fun j hj => by
    have h3 := hwk j
    have := srt_idx (S := wS s V root (wk s V root j / 2)) hj (by simp [wS])
    exact ⟨_, _, by omega, this⟩
  refine ⟨fun j hj => ?_, ?_⟩
  · obtain ⟨t, i, ht, hi, rfl⟩ := hfind j hj
    exact ⟨_, (srt_get (hbd t i hi)).1, hd t ht i hi⟩
  · have hp := wplane hs he hr hV hc e
    rw [ncTo_iff hs he hr hV, ncTo_iff hs he hr hV] at hp
    rw [hp.2, ← stk_srt (S := wS s V root 1) (wm_pmatch hs he hr hV 1) (op := wO s V root) (wop hs he hr hV)]
    have hp0 := (stk_srt (S := wS s V root 0) (wm_pmatch hs he hr hV 0) (op := wO s V root) (wop hs he hr hV)).2 hp.1
    rw [← stS_kind] at hp0 ⊢
    constructor
    · intro h i hi
      have hj := (srt_get hi).1
      have h1 := h _ hj
      rw [hd 1 (by omega) i hi, Int.toNat_natCast] at h1
      exact (wm_eq hs he hr hV hj (srt_get (hbd 1 i hi)).1 h1).symm
    · intro h j hj
      obtain ⟨t, i, ht, hi, rfl⟩ := hfind j hj
      rw [hd t ht i hi, Int.toNat_natCast]
      have ht2 : t = 0 ∨ t = 1 := by omega
      rcases ht2 with rfl | rfl
      · rw [hp0 i hi]
        exact (wm_spec hs he hr hV hj).2
      · rw [h i hi]
        exact (wm_spec hs he hr hV hj).2
end
end Go.Proofs.Ytnbecpeiodcohaa
