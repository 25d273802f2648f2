/- parquetryref04.Text: the document's text of a word. Conditions: each letter is one of four, the list lies in memory. -/
import Derived.Test.YtnbecpeiodcohaaWalkE
import Derived.Laws.Concat
namespace Go.Proofs.Ytnbecpeiodcohaa
open Go.RowKit
set_option linter.unusedVariables false

set_option maxRecDepth 100000 in
set_option maxHeartbeats 2000000 in
theorem rtext_any (w : World) (v : Value) (L : List Int) (hv : Ints w v L) (hk : ∀ i, i < L.length → 0 ≤ nth L i ∧ nth L i ≤ 3) (hn : L.length ≤ 1000000) :
    Calls Try.prog 26 #[v] w fun e w' => e = .returned (.string ⟨(textL L).toArray⟩) ∧ w' = w := by
  obtain ⟨a, cap, rfl, hv⟩ := hv.open
  obtain ⟨n, hl⟩ : ∃ n, L.length = n := ⟨_, rfl⟩
  rw [hl] at hv hk hn ⊢
  have HL := Lib.hid hl
  have HV := Lib.hid hv
  have HK := Lib.hid hk
  clear hl hv hk
  go_enter Try.func26, Try.ntmps26
  go_wp2_with fail
  go_loopg [3, 8] n (fun g v3 v8 wr => ∃ i : Nat, i ≤ n ∧ n - i ≤ g ∧ v3 = .string ⟨(textL (L.take i)).toArray⟩ ∧ v8 = .int .i64 (i : Int) ∧ wr = w)
  case atStart => exact ⟨0, by omega, by omega, rfl, rfl, rfl⟩
  case round =>
    obtain ⟨i, hi, hg, rfl, rfl, rfl⟩ := hrel
    by_cases hil : i < n
    · obtain ⟨gb, off, rfl, hc⟩ := HV.out.cell (i := i) (by rw [HL.out]; exact hil)
      have hkk := HK.out i hil
      have htk : textL (L.take (i + 1)) = textL (L.take i) ++ [letter (nth L i)] := by
        have hx : nth L i = L[i]'(by rw [HL.out]; exact hil) := by simp [nth, HL.out, hil]
        rw [List.take_add_one, List.getElem?_eq_getElem (by rw [HL.out]; exact hil), hx]
        unfold textL
        rw [List.map_append]
        rfl
      have hlen : (textL (L.take i)).length ≤ 1000000 := by simp [textL]; omega
      obtain ⟨k, hkx⟩ : ∃ k, nth L i = k := ⟨_, rfl⟩
      rw [hkx] at hc htk hkk
      obtain ⟨T, hT⟩ : ∃ T, textL (L.take i) = T := ⟨_, rfl⟩
      rw [hT] at htk hlen ⊢
      have HT := Lib.hid htk
      clear hkx htk hT
      have hcat : ∀ (c : UInt8) w, (Op.stringOp .add ⟨T.toArray⟩ ⟨#[c]⟩).run Try.prog w = .ok (.string ⟨(T ++ [c]).toArray⟩) w := fun c w => run_string_add_lists w T [c] (by omega) (by simp)
      clear hlen
      have hk4 : k = 0 ∨ k = 1 ∨ k = 2 ∨ k = 3 := by omega
      clear hkk
      rcases hk4 with rfl | rfl | rfl | rfl
      · have hsl : ∀ w, (Instr.slice 9 (.string ⟨#[40, 41, 91, 93]⟩) (some (.int .i64 0)) (some (.int .i64 1)) none).run Try.prog w = .ok (.string ⟨#[40]⟩) w := fun _ => by kernel_rfl
        go_wp2_with fail
        go_roundg (n - (i + 1))
        case measure => omega
        case rel => exact ⟨i + 1, by omega, by omega, by rw [HT.out]; rfl, by go_num, rfl⟩
      · have hsl : ∀ w, (Instr.slice 9 (.string ⟨#[40, 41, 91, 93]⟩) (some (.int .i64 1)) (some (.int .i64 2)) none).run Try.prog w = .ok (.string ⟨#[41]⟩) w := fun _ => by kernel_rfl
        go_wp2_with fail
        go_roundg (n - (i + 1))
        case measure => omega
        case rel => exact ⟨i + 1, by omega, by omega, by rw [HT.out]; rfl, by go_num, rfl⟩
      · have hsl : ∀ w, (Instr.slice 9 (.string ⟨#[40, 41, 91, 93]⟩) (some (.int .i64 2)) (some (.int .i64 3)) none).run Try.prog w = .ok (.string ⟨#[91]⟩) w := fun _ => by kernel_rfl
        go_wp2_with fail
        go_roundg (n - (i + 1))
        case measure => omega
        case rel => exact ⟨i + 1, by omega, by omega, by rw [HT.out]; rfl, by go_num, rfl⟩
      · have hsl : ∀ w, (Instr.slice 9 (.string ⟨#[40, 41, 91, 93]⟩) (some (.int .i64 3)) (some (.int .i64 4)) none).run Try.prog w = .ok (.string ⟨#[93]⟩) w := fun _ => by kernel_rfl
        go_wp2_with fail
        go_roundg (n - (i + 1))
        case measure => omega
        case rel => exact ⟨i + 1, by omega, by omega, by rw [HT.out]; rfl, by go_num, rfl⟩
    · obtain rfl : i = n := by omega
      have e : L.take i = L := by rw [← HL.out]; exact List.take_length
      rw [e]
      go_wp2_with fail
      go_ret
      exact ⟨rfl, rfl⟩

end Go.Proofs.Ytnbecpeiodcohaa
