/- the references of layer 5: Count, Inverse. Conditions: the list is a permutation that lies in memory. -/
import Derived.Test.YtedocjhbmhllcaaRefA
namespace Go.Proofs.Ytedocjhbmhllcaa
open Go.RowKit
set_option linter.unusedVariables false

def RetE (R : Reg) (w : World) (v : Value) (e : Ending) (w' : World) : Prop := e = .returned v ∧ Ev R w R w'

set_option maxHeartbeats 1000000 in
theorem rcount_any (R : Reg) (w : World) (hI : Inv R w) (v : Value) (s : List Nat) (hv : FreeI R w v (toI s)) (hS : IsPerm s) (hn : s.length ≤ 4194304) :
    Calls Try.prog 65 #[v] w (RetE R w (.int .i64 ((sizesL s).length : Int))) := by
  have HN := Lib.hid (rnames_any R w hI v s hv hS hn)
  have HS := Lib.hid hS
  obtain ⟨n, hl⟩ : ∃ n, s.length = n := ⟨_, rfl⟩
  have HL := Lib.hid hl
  rw [hl] at hn
  clear hI hv hS hl
  go_enter Try.func65, Try.ntmps65
  go_wp2_with fail
  refine HN.out.mono ?_
  rintro e w1 ⟨v1, rfl, he1, ho1⟩
  have hf := ho1.free
  obtain ⟨a, cap, rfl, hf⟩ := hf.open
  rw [namesL_length, HL.out] at hf ⊢
  have HE := Lib.hid he1
  have HF := Lib.hid hf
  clear he1 ho1 hf
  go_wp2_with fail
  go_loopg [3, 9] n (fun g v3 v9 wr => ∃ k : Nat, k ≤ n ∧ n - k ≤ g ∧ v3 = .int .i64 (((namesGo s k).2 : Nat) : Int) ∧ v9 = .int .i64 (k : Int) ∧ wr = w1)
  case atStart => exact ⟨0, Nat.zero_le _, by omega, rfl, rfl, rfl⟩
  case round =>
    obtain ⟨k, hk, hg, rfl, rfl, rfl⟩ := hrel
    have hcnt : (namesGo s k).2 ≤ k := namesGo_count s k
    by_cases hkn : k < n
    · have hnx := names_next HS.out (k := k) (by rw [HL.out]; exact hkn)
      obtain ⟨b, off, rfl, hc⟩ := HF.out.1.cell (i := k) (by rw [namesL_length, HL.out]; exact hkn)
      obtain ⟨x, hx⟩ : ∃ x, nth (namesL s) k = x := ⟨_, rfl⟩
      obtain ⟨C, hC⟩ : ∃ C, (namesGo s k).2 = C := ⟨_, rfl⟩
      rw [hx] at hc hnx
      rw [hC] at hnx hcnt ⊢
      have HX := Lib.hid hnx
      clear hnx hx hC
      by_cases hge : (C : Int) ≤ x
      · obtain ⟨hx1, hx2⟩ : x = C ∧ (namesGo s (k + 1)).2 = C + 1 := by rcases HX.out with h | h <;> omega
        subst hx1
        have H2 := Lib.hid hx2
        clear hx2
        go_wp2_with fail
        go_roundg (n - (k + 1))
        case measure => omega
        case rel => exact ⟨k + 1, by omega, by omega, by rw [H2.out]; go_num, by go_num, rfl⟩
      · have hx2 : (namesGo s (k + 1)).2 = C := by rcases HX.out with h | h <;> omega
        have H2 := Lib.hid hx2
        clear hx2
        go_wp2_with fail
        go_roundg (n - (k + 1))
        case measure => omega
        case rel => exact ⟨k + 1, by omega, by omega, by rw [H2.out], by go_num, rfl⟩
    · obtain rfl : k = n := by omega
      go_wp2_with fail
      go_ret
      refine ⟨ret_int ?_, HE.out⟩
      show (((namesGo s k).2 : Nat) : Int) = _
      rw [← sizesGo_all, sizesGo_length HS.out _ (Nat.le_refl _), HL.out]

set_option maxRecDepth 100000 in
set_option maxHeartbeats 1000000 in
theorem rinverse_any (R : Reg) (w : World) (hI : Inv R w) (v : Value) (s : List Nat) (hv : FreeI R w v (toI s)) (hS : IsPerm s) (hn : s.length ≤ 4194304) :
    Calls Try.prog 43 #[v] w (RetOwn R w (toI (invL s))) := by
  obtain ⟨a0, cap0, rfl, hv⟩ := hv.open
  rw [toI_length] at hv ⊢
  obtain ⟨n, hl⟩ : ∃ n, s.length = n := ⟨_, rfl⟩
  have HL := Lib.hid hl
  rw [hl] at hn hv ⊢
  have HI := Lib.hid hI
  have HS := Lib.hid hS
  have HV := Lib.hid hv
  obtain ⟨i0, hi, hz0, hz1, hz2⟩ := info_parts int_info
  clear hI hS hl hv
  go_enter Try.func43, Try.ntmps43
  go_wp2_with (refine wpList_make_full _ rfl _ _ 25 rfl w.heap.size 3 i0 (.int .i64 0) 1 Try.underlying25 hi hz0 hz1 .i64 .i64 (n : Int) (n : Int) n rfl rfl rfl rfl ?q1 ?q2 (Nat.le_refl _) ?_)
  case q1 => rw [hz2]; omega
  case q2 => unfold maxLen; omega
  intro w1 ho1 hg1
  have hown : OwnI R w.heap.size 3 w1 (.slice (some ⟨w.heap.size, 0, none⟩) n n) (toI (invGo s 0)) := by
    have := OwnI.made HI.out ho1
    rw [show toI (invGo s 0) = List.replicate n 0 by simp [toI, invGo, HL.out]]
    exact this
  have he1 : Ev R w R w1 := (Ev.refl HI.out).grown hg1 (by simp)
  have HO1 := Lib.hid hown
  have HE1 := Lib.hid he1
  clear ho1 hg1 hown he1
  go_wp2_with fail
  go_loopg [11] n (fun g v11 wr => ∃ k : Nat, k ≤ n ∧ n - k ≤ g ∧ v11 = .int .i64 (k : Int) ∧ Ev R w R wr ∧ OwnI R w.heap.size 3 wr (.slice (some ⟨w.heap.size, 0, none⟩) n n) (toI (invGo s k)))
  case atStart => exact ⟨0, Nat.zero_le _, by omega, rfl, HE1.out, HO1.out⟩
  case round =>
    obtain ⟨k, hk, hg, rfl, he, ho⟩ := hrel
    have HE := Lib.hid he
    have HO := Lib.hid ho
    have HLE := Lib.hid (show (toI (invGo s k)).length = n by rw [toI_length, invGo_length, HL.out])
    clear he ho
    by_cases hkn : k < n
    · obtain ⟨b', off, e1, hc⟩ := (HV.out.ev HE.out).at (i := k) (by rw [HL.out]; exact hkn)
      subst e1
      have hx : at' s k < n := by have := HS.out.lt (i := k) (by rw [HL.out]; exact hkn); rw [HL.out] at this; exact this
      obtain ⟨x, hxe⟩ : ∃ x, at' s k = x := ⟨_, rfl⟩
      rw [hxe] at hx hc
      obtain ⟨g, e2, hgb, hgn, hcx, hzx⟩ := HO.out.headAt HLE.out hx
      cases e2
      have hst := HO.out.put HLE.out x hx (k : Int)
      have hs2 : (toI (invGo s k)).set x (k : Int) = toI (invGo s (k + 1)) := by rw [invGo_succ, toI_set, hxe]
      rw [hs2] at hst
      have HST := Lib.hid hst
      clear hst hs2 hxe
      go_wp2_with fail
      go_roundg (n - (k + 1))
      case measure => omega
      case rel => exact ⟨k + 1, by omega, by omega, by go_num, HE.out.setCell (Nat.le_refl _) hgn _, HST.out⟩
    · obtain rfl : k = n := by omega
      go_wp2_with fail
      go_ret
      refine ⟨_, rfl, HE.out, ?_⟩
      have := HO.out
      rw [← HL.out] at this
      unfold invL
      rw [← HL.out]
      exact this

end Go.Proofs.Ytedocjhbmhllcaa
