/- the references of layer 5: Count, Inverse. Conditions: the list is a permutation that lies in memory. -/
import Derived.Test.YtnbecpeiodcohaaRefA
namespace Go.Proofs.Ytnbecpeiodcohaa
open Go.RowKit
set_option linter.unusedVariables false

def RetE (R : Reg) (w : World) (v : Value) (e : Ending) (w' : World) : Prop := e = .returned v ∧ Ev R w R w'

set_option maxRecDepth 100000 in
set_option maxHeartbeats 1000000 in
theorem rinverse_any (R : Reg) (w : World) (hI : Inv R w) (v : Value) (s : List Nat) (hv : FreeI R w v (toI s)) (hS : IsPerm s) (hn : s.length ≤ 4194304) :
    Calls Try.prog 107 #[v] w (RetOwn R w (toI (invL s))) := by
  obtain ⟨a0, cap0, rfl, hv⟩ := hv.open
  rw [toI_length] at hv ⊢
  obtain ⟨n, hl⟩ : ∃ n, s.length = n := ⟨_, rfl⟩
  have HL := Lib.hid hl
  rw [hl] at hn hv ⊢
  have HI := Lib.hid hI
  have HS := Lib.hid hS
  have HV := Lib.hid hv
  obtain ⟨i0, hi, hz0, hz1, hz2⟩ := info_parts int_info
  clear hI hS hl hv
  go_enter Try.func107, Try.ntmps107
  go_wp2_with (refine wpList_make_full _ rfl _ _ 25 rfl w.heap.size 3 i0 (.int .i64 0) 1 Try.underlying25 hi hz0 hz1 .i64 .i64 (n : Int) (n : Int) n rfl rfl rfl rfl ?q1 ?q2 (Nat.le_refl _) ?_)
  case q1 => rw [hz2]; omega
  case q2 => unfold maxLen; omega
  intro w1 ho1 hg1
  have hown : OwnI R w.heap.size 3 w1 (.slice (some ⟨w.heap.size, 0, none⟩) n n) (toI (invGo s 0)) := by
    have := OwnI.made HI.out ho1
    rw [show toI (invGo s 0) = List.replicate n 0 by simp [toI, invGo, HL.out]]
    exact this
  have he1 : Ev R w R w1 := (Ev.refl HI.out).grown hg1 (by simp)
  have HO1 := Lib.hid hown
  have HE1 := Lib.hid he1
  clear ho1 hg1 hown he1
  go_wp2_with fail
  go_loopg [11] n (fun g v11 wr => ∃ k : Nat, k ≤ n ∧ n - k ≤ g ∧ v11 = .int .i64 (k : Int) ∧ Ev R w R wr ∧ OwnI R w.heap.size 3 wr (.slice (some ⟨w.heap.size, 0, none⟩) n n) (toI (invGo s k)))
  case atStart => exact ⟨0, Nat.zero_le _, by omega, rfl, HE1.out, HO1.out⟩
  case round =>
    obtain ⟨k, hk, hg, rfl, he, ho⟩ := hrel
    have HE := Lib.hid he
    have HO := Lib.hid ho
    have HLE := Lib.hid (show (toI (invGo s k)).length = n by rw [toI_length, invGo_length, HL.out])
    clear he ho
    by_cases hkn : k < n
    · obtain ⟨b', off, e1, hc⟩ := (HV.out.ev HE.out).at (i := k) (by rw [HL.out]; exact hkn)
      subst e1
      have hx : at' s k < n := by have := HS.out.lt (i := k) (by rw [HL.out]; exact hkn); rw [HL.out] at this; exact this
      obtain ⟨x, hxe⟩ : ∃ x, at' s k = x := ⟨_, rfl⟩
      rw [hxe] at hx hc
      obtain ⟨g, e2, hgb, hgn, hcx, hzx⟩ := HO.out.headAt HLE.out hx
      cases e2
      have hst := HO.out.put HLE.out x hx (k : Int)
      have hs2 : (toI (invGo s k)).set x (k : Int) = toI (invGo s (k + 1)) := by rw [invGo_succ, toI_set, hxe]
      rw [hs2] at hst
      have HST := Lib.hid hst
      clear hst hs2 hxe
      go_wp2_with fail
      go_roundg (n - (k + 1))
      case measure => omega
      case rel => exact ⟨k + 1, by omega, by omega, by go_num, HE.out.setCell (Nat.le_refl _) hgn _, HST.out⟩
    · obtain rfl : k = n := by omega
      go_wp2_with fail
      go_ret
      refine ⟨_, rfl, HE.out, ?_⟩
      have := HO.out
      rw [← HL.out] at this
      unfold invL
      rw [← HL.out]
      exact this

end Go.Proofs.Ytnbecpeiodcohaa
