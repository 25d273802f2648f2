/- package perm: Names. Conditions: permutations are registered. -/
import Derived.Test.YtnbecpeiodcohaaPermC
import Derived.Test.YtnbecpeiodcohaaPermD
namespace Go.Proofs.Ytnbecpeiodcohaa
open Go.RowKit
set_option linter.unusedVariables false

theorem nth_getD {xs : List Int} {i : Nat} (h : i < xs.length) (d : Int) : xs.getD i d = nth xs i := by simp [nth, h]

theorem Ints.alone (w : World) (y : Int) : Ints (w.alloc (.cells #[.int .i64 y] 3)) (.slice (some ⟨w.heap.size, 0, none⟩) 1 1) [y] :=
  ⟨_, 1, rfl, Nat.le_refl _, by simp [maxLen], fun i hi => ⟨w.heap.size, 0, rfl, by
    obtain rfl : i = 0 := by simpa using hi
    simp [nth]⟩⟩

set_option maxRecDepth 100000 in
set_option maxHeartbeats 1000000 in
theorem names_any (R : Reg) (w : World) (hI : Inv R w) (p : Value) (s : List Nat) (hp : PermAt R p s) :
    Calls Try.prog 130 #[p] w (RetOwn R w (namesL s)) := by
  have hp' := hp
  obtain ⟨b, rfl, hb⟩ := hp
  obtain ⟨hS, hn, _⟩ := hI.permCells hb
  obtain ⟨n, hl⟩ : ∃ n, s.length = n := ⟨_, rfl⟩
  have HL := Lib.hid hl
  rw [hl] at hn
  have HP := Lib.hid hp'
  have HI := Lib.hid hI
  have HS := Lib.hid hS
  have hI1 := Lib.hid (hI.alloc (.cells #[.int .i64 (-1)] 3))
  clear hI hb hS hp' hl
  go_enter Try.func130, Try.ntmps130
  go_wp2_with fail
  refine (len_any R _ hI1.out _ s HP.out).mono ?_
  rintro e w1 ⟨rfl, rfl⟩
  rw [HL.out]
  go_wp2_with fail
  refine (repeat_one R _ hI1.out _ (-1) (Ints.alone w (-1)) n hn).mono ?_
  rintro e w2 ⟨v, rfl, he2, ho2⟩
  have he2' := ((Ev.refl HI.out).alloc (.cells #[.int .i64 (-1)] 3)).trans he2
  have ho2' : OwnI R w.heap.size 3 w2 v (namesGo s 0).1 := by
    rw [namesGo_zero, HL.out]
    exact ho2.mono (by simp)
  have hlen : (namesGo s 0).1.length = n := by rw [namesGo_length, HL.out]
  obtain ⟨a, cap, rfl, _⟩ := ho2'.ints.open
  rw [hlen] at ho2' ⊢
  have HE2 := Lib.hid he2'
  have HO2 := Lib.hid ho2'
  clear he2 ho2 he2' ho2' hlen
  go_wp2_with fail
  go_loopg [4, 14] n (fun g v4 v14 wr => ∃ k : Nat, k ≤ n ∧ n - k ≤ g ∧ v4 = .int .i64 (((namesGo s k).2 : Nat) : Int) ∧ v14 = .int .i64 (k : Int) ∧ Ev R w R wr ∧ OwnI R w.heap.size 3 wr (.slice a n cap) (namesGo s k).1)
  case atStart => exact ⟨0, Nat.zero_le _, by omega, rfl, rfl, HE2.out, HO2.out⟩
  case round =>
    obtain ⟨k, hk, hg, rfl, rfl, he, ho⟩ := hrel
    have HE := Lib.hid he
    have HO := Lib.hid ho
    clear he ho
    have hlen : (namesGo s k).1.length = n := by rw [namesGo_length, HL.out]
    have hcnt : (namesGo s k).2 ≤ k := namesGo_count s k
    have HN := Lib.hid (namesGo_succ s k)
    obtain ⟨N, C, hNC⟩ : ∃ N C, namesGo s k = (N, C) := ⟨_, _, rfl⟩
    rw [hNC] at HO HN hlen hcnt ⊢
    simp only at HO hlen hcnt ⊢
    have HNC := Lib.hid hNC
    have HLN := Lib.hid hlen
    clear hNC hlen
    by_cases hkn : k < n
    · obtain ⟨gb, cap', e1, hgb, hgn, hc, hz⟩ := HO.out.head (i := k) (by rw [HLN.out]; exact hkn)
      rw [HLN.out] at e1
      cases e1
      by_cases hold : 0 ≤ nth N k
      · go_wp2_with fail
        go_roundg (n - (k + 1))
        case measure => omega
        case rel =>
          have e2 : namesGo s (k + 1) = (N, C) := by rw [HN.out]; exact nameStep_old (by rw [nth_getD (by rw [HLN.out]; exact hkn)]; exact hold)
          exact ⟨k + 1, by omega, by omega, by rw [e2], by go_num, HE.out, by rw [e2]; exact HO.out⟩
      · have e2 : namesGo s (k + 1) = ((orbitL s k).foldl (fun l x => l.set x (C : Int)) N, C + 1) := by rw [HN.out]; exact nameStep_new (by rw [nth_getD (by rw [HLN.out]; exact hkn)]; exact hold)
        have HE2 := Lib.hid e2
        clear e2
        go_wp2_with fail
        refine (orbit_in R wr HE.out.inv _ s HP.out k (by rw [HL.out]; exact hkn)).mono ?_
        rintro e w3 ⟨vo, rfl, he3, ho3⟩
        have hsz3 := he3.size
        have hszr := HE.out.size
        have hgblt : gb < wr.heap.size := by
          have := HO.out.lt gb (by rfl)
          omega
        have hof : FreeI R w3 vo (toI (orbitL s k)) := ho3.free
        have hob : ∀ q, vo.ownBlock = some q → q ≠ gb := fun q hq => by
          have := ho3.lt q hq
          omega
        have hlo : (orbitL s k).length ≤ n + 1 := by have := orbitL_length s k; rw [HL.out] at this; exact this
        have hin : ∀ y ∈ orbitL s k, y < n := by have := orbitL_lt HS.out (i := k) (by rw [HL.out]; exact hkn); rw [HL.out] at this; exact this
        obtain ⟨ao, co, rfl, _⟩ := hof.1.open
        obtain ⟨L, hL⟩ : ∃ L, orbitL s k = L := ⟨_, rfl⟩
        rw [hL] at hof hlo hin HE2 hob ⊢
        rw [toI_length] at hof hob ⊢
        have he4 := HE.out.trans he3
        have ho4 : OwnI R w.heap.size 3 w3 (.slice (some ⟨gb, 0, none⟩) n cap) N := HO.out.ev he3
        have HF := Lib.hid hof
        have HB := Lib.hid hob
        have HIN := Lib.hid hin
        have HE4 := Lib.hid he4
        have HO4 := Lib.hid ho4
        obtain ⟨m, hm⟩ : ∃ m, L.length = m := ⟨_, rfl⟩
        have HM := Lib.hid hm
        rw [hm] at hlo HF HB ⊢
        clear he3 ho3 hof hob hin hL he4 ho4 hc hz hm hsz3
        go_wp2_with fail
        obtain ⟨wo, hwo⟩ : ∃ wo : World, wo = w3 := ⟨_, rfl⟩
        subst hwo
        go_loopg [26] m (fun g' v26 wq => ∃ j : Nat, j ≤ m ∧ m - j ≤ g' ∧ v26 = .int .i64 (j : Int) ∧ Ev R w R wq ∧ OwnI R w.heap.size 3 wq (.slice (some ⟨gb, 0, none⟩) n cap) ((L.take j).foldl (fun l x => l.set x (C : Int)) N) ∧ FreeI R wq (.slice ao m co) (toI L))
        case atStart => exact ⟨0, Nat.zero_le _, by omega, rfl, HE4.out, HO4.out, HF.out⟩
        case round =>
          obtain ⟨j, hj, hg', rfl, heq, hoq, hfq⟩ := hrel
          have HEQ := Lib.hid heq
          have HOQ := Lib.hid hoq
          have HFQ := Lib.hid hfq
          clear heq hoq hfq
          by_cases hjm : j < m
          · obtain ⟨b', off, rfl, hcx⟩ := HFQ.out.1.cell (i := j) (by rw [toI_length, HM.out]; exact hjm)
            rw [toI_nth] at hcx
            have hjL : j < L.length := by rw [HM.out]; exact hjm
            have hy : at' L j < n := by rw [at'_eq hjL]; exact HIN.out _ (List.getElem_mem hjL)
            have hfold := foldl_take_succ (fun (l : List Int) x => l.set x (C : Int)) N L j hjL
            rw [← at'_eq hjL] at hfold
            have HFO := Lib.hid hfold
            obtain ⟨y, hye⟩ : ∃ y, at' L j = y := ⟨_, rfl⟩
            rw [hye] at hcx hy HFO
            obtain ⟨M, hM⟩ : ∃ M, (L.take j).foldl (fun (l : List Int) x => l.set x (C : Int)) N = M := ⟨_, rfl⟩
            rw [hM] at HOQ HFO
            have hMl : M.length = n := by rw [← hM, foldl_set_length, HLN.out]
            obtain ⟨gb', cap'', e1, _, _, hcy, hzy⟩ := HOQ.out.head (i := y) (by rw [hMl]; exact hy)
            rw [hMl] at e1
            cases e1
            have hst := HOQ.out
            rw [← hMl] at hst
            have hst2 := hst.store y (by rw [hMl]; exact hy) (C : Int)
            rw [hMl] at hst2
            have HST := Lib.hid hst2
            clear hye hM hMl hfold hst hst2
            go_wp2_with fail
            go_roundg (m - (j + 1))
            case measure => omega
            case rel =>
              refine ⟨j + 1, by omega, by omega, by go_num, HEQ.out.setCell hgb hgn _, ?_, HFQ.out.setCell (fun e => ?_) _⟩
              · rw [HFO.out]; exact HST.out
              · exact HB.out gb e rfl
          · obtain rfl : j = m := by omega
            go_wp2_with fail
            go_roundg (n - (k + 1))
            case measure => omega
            case rel =>
              refine ⟨k + 1, by omega, by omega, ?_, by go_num, HEQ.out, ?_⟩
              · rw [HE2.out]; go_num
              · rw [HE2.out]
                have := HOQ.out
                rw [List.take_of_length_le (by rw [HM.out]; exact Nat.le_refl _)] at this
                exact this
    · obtain rfl : k = n := by omega
      go_wp2_with fail
      go_ret
      refine ⟨_, rfl, HE.out, ?_⟩
      have : namesL s = N := by unfold namesL; rw [HL.out, HNC.out]
      rw [this]
      exact HO.out

end Go.Proofs.Ytnbecpeiodcohaa
