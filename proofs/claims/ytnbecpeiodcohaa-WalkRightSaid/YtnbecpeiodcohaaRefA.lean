/- the references of layer 5: Orbit, Names, Count, Inverse. Conditions: the list is a permutation that lies in memory. -/
import Derived.Test.YtnbecpeiodcohaaPermG
import Derived.Test.YtnbecpeiodcohaaPermF
import Derived.Test.YtnbecpeiodcohaaMathB
namespace Go.Proofs.Ytnbecpeiodcohaa
open Go.RowKit
set_option linter.unusedVariables false

theorem FreeI.open {R : Reg} {w : World} {v : Value} {xs : List Int} (h : FreeI R w v xs) : ∃ a cap, v = .slice a xs.length cap ∧ FreeI R w (.slice a xs.length cap) xs := by
  obtain ⟨a, cap, e, _⟩ := h.1.open
  subst e
  exact ⟨a, cap, rfl, h⟩

/-- the cell at i of a permutation's list -/
theorem FreeI.at {R : Reg} {w : World} {a : Option Addr} {n cap : Nat} {s : List Nat} (h : FreeI R w (.slice a n cap) (toI s)) {i : Nat} (hi : i < s.length) :
    ∃ b off, a = some ⟨b, off, none⟩ ∧ w.cell? ⟨b, off + i, none⟩ = some (.int .i64 ((at' s i : Nat) : Int)) := by
  obtain ⟨b, off, e, hc⟩ := h.1.cell (i := i) (by rw [toI_length]; exact hi)
  exact ⟨b, off, e, by rw [hc, toI_nth]⟩

set_option maxHeartbeats 1000000 in
theorem rorbit_any (R : Reg) (w : World) (hI : Inv R w) (v : Value) (s : List Nat) (hv : FreeI R w v (toI s)) (hS : IsPerm s) (hn : s.length ≤ 4194304) (i : Nat) (hi : i < s.length) :
    Calls Try.prog 93 #[v, .int .i64 (i : Int)] w (RetOwn R w (toI (orbitL s i))) := by
  obtain ⟨a, cap, rfl, hv⟩ := hv.open
  rw [toI_length] at hv ⊢
  obtain ⟨b', off, rfl, hc⟩ := hv.at hi
  have hlt' := lt_of_cell hc
  have HI := Lib.hid hI
  have HP := Lib.hid hS
  have HV := Lib.hid hv
  clear hI hS hv
  go_enter Try.func93, Try.ntmps93
  go_wp2_with fail
  clear hc
  go_loopg [5, 6] s.length (fun g v x wr => ∃ (f : Nat) (l : List Nat) (y : Nat), f ≤ g ∧ x = .int .i64 (y : Int) ∧ y < s.length ∧ Reach s i f y ∧ l.length + f ≤ s.length + 1 ∧ l ++ orbitGo s i f y = orbitL s i ∧ Ev R w R wr ∧ OwnI R w.heap.size 3 wr v (toI l))
  case atStart =>
    refine ⟨s.length, [i], at' s i, Nat.le_refl _, rfl, HP.out.lt hi, HP.out.reach hi, by simp; omega, rfl, (Ev.refl HI.out).alloc _, ?_, ?_⟩
    · simpa [toI] using World.ownsRow_lit (base := w.heap.size) (e := 3) (size := 1) w #[.int .i64 (i : Int)] 1 (Nat.le_refl _) (by simp [maxLen]) rfl
    · intro k hk
      simp only [Value.ownBlock, Option.some.injEq] at hk
      exact HI.out.none_of_ge (by omega)
  case round =>
    obtain ⟨f, l, y, hg, rfl, hy, hr, hlf, heq, he, ho⟩ := hrel
    have HR := Lib.hid hr
    have HQ := Lib.hid heq
    have HE := Lib.hid he
    have HO := Lib.hid ho
    clear hr heq he ho
    by_cases hyi : y = i
    · subst hyi
      go_wp2
      go_ret
      refine ⟨_, rfl, HE.out, ?_⟩
      have e := HQ.out
      rw [orbitGo_end, List.append_nil] at e
      rw [← e]
      exact HO.out
    · obtain ⟨f', hf, hr'⟩ := HR.out.next hyi
      have HR' := Lib.hid hr'
      have hi' : ¬ (y : Int) = (i : Int) := by omega
      have HLL := Lib.hid (show l.length ≤ 4194305 by omega)
      clear hr'
      go_wp2_with (at_builtin; refine wpList_app_int (R := R) (B := w.heap.size) rfl _ _ rfl (HO.out.alloc _) rfl ⟨wr.heap.size, 0, none⟩ 1 (y : Int) rfl ?q1 ?q2 ?q3 ?q4 ?_)
      case q1 => simp
      case q2 => rw [toI_length]; have := HLL.out; omega
      case q3 => simp; have := HE.out.size; omega
      case q4 => intro k hk; exact HE.out.inv.none_of_ge (by simp at hk; omega)
      intro v' w1 ho1 hg1 hs1
      have he1 := (HE.out.alloc (.cells #[.int .i64 (y : Int)] 3)).app (HO.out.alloc _) (Nat.le_refl _) hg1
      have HE1 := Lib.hid he1
      have HO1 := Lib.hid ho1
      obtain ⟨b2, off2, e2, hc⟩ := (HV.out.ev HE1.out).at hy
      cases e2
      clear he1 ho1 hg1 hs1
      go_wp2
      go_roundg f'
      case measure => omega
      case rel =>
        refine ⟨f', l ++ [y], at' s y, Nat.le_refl _, rfl, HP.out.lt hy, HR'.out, by simp; omega, ?_, HE1.out, ?_⟩
        · have e := HQ.out
          rw [hf, orbitGo_next hyi] at e
          rw [← e]
          simp
        · rw [toI_append]; exact HO1.out

theorem repCur_eq (n k : Nat) (y : Int) : repCur n k y = (List.replicate k y ++ List.replicate (n - k) 0).map (Value.int .i64) := by simp [repCur]
theorem rep_set {n k : Nat} {y : Int} (h : k < n) : (List.replicate k y ++ List.replicate (n - k) (0 : Int)).set k y = List.replicate (k + 1) y ++ List.replicate (n - (k + 1)) 0 := by
  rw [List.set_append_right _ _ (by simp), List.length_replicate, Nat.sub_self, show n - k = (n - (k + 1)) + 1 by omega, List.replicate_succ, List.set_cons_zero, List.replicate_succ' (n := k)]
  simp

set_option maxRecDepth 100000 in
set_option maxHeartbeats 2000000 in
theorem rnames_any (R : Reg) (w : World) (hI : Inv R w) (v : Value) (s : List Nat) (hv : FreeI R w v (toI s)) (hS : IsPerm s) (hn : s.length ≤ 4194304) :
    Calls Try.prog 45 #[v] w (RetOwn R w (namesL s)) := by
  obtain ⟨a0, cap0, rfl, hv⟩ := hv.open
  rw [toI_length] at hv ⊢
  obtain ⟨n, hl⟩ : ∃ n, s.length = n := ⟨_, rfl⟩
  have HL := Lib.hid hl
  rw [hl] at hn hv ⊢
  have HI := Lib.hid hI
  have HS := Lib.hid hS
  have HV := Lib.hid hv
  obtain ⟨i0, hi, hz0, hz1, hz2⟩ := info_parts int_info
  clear hI hS hl hv
  go_enter Try.func45, Try.ntmps45
  go_wp2_with (refine wpList_make_full _ rfl _ _ 25 rfl w.heap.size 3 i0 (.int .i64 0) 1 Try.underlying25 hi hz0 hz1 .i64 .i64 (n : Int) (n : Int) n rfl rfl rfl rfl ?q1 ?q2 (Nat.le_refl _) ?_)
  case q1 => rw [hz2]; omega
  case q2 => unfold maxLen; omega
  intro w1 ho1 hg1
  have hown : OwnI R w.heap.size 3 w1 (.slice (some ⟨w.heap.size, 0, none⟩) n n) (List.replicate 0 (-1) ++ List.replicate (n - 0) 0) := by
    simpa using OwnI.made HI.out ho1
  have he1 : Ev R w R w1 := (Ev.refl HI.out).grown hg1 (by simp)
  have HO1 := Lib.hid hown
  have HE1 := Lib.hid he1
  clear ho1 hg1 hown he1
  go_wp2_with fail
  go_loopg [14] n (fun g v14 wr => ∃ k : Nat, k ≤ n ∧ n - k ≤ g ∧ v14 = .int .i64 (k : Int) ∧ Ev R w R wr ∧ OwnI R w.heap.size 3 wr (.slice (some ⟨w.heap.size, 0, none⟩) n n) (List.replicate k (-1) ++ List.replicate (n - k) 0))
  case atStart => exact ⟨0, Nat.zero_le _, by omega, rfl, HE1.out, HO1.out⟩
  case round =>
    obtain ⟨k, hk, hg, rfl, he, ho⟩ := hrel
    have hlen : (List.replicate k (-1 : Int) ++ List.replicate (n - k) 0).length = n := by simp; omega
    have HLE := Lib.hid hlen
    have HE := Lib.hid he
    have HO := Lib.hid ho
    clear he ho hlen
    by_cases hkn : k < n
    · obtain ⟨gb, cap', e1, hgb, hgn, hc, hz⟩ := HO.out.head (i := k) (by rw [HLE.out]; exact hkn)
      rw [HLE.out] at e1
      cases e1
      have hst2 := HO.out.put HLE.out k hkn (-1)
      rw [rep_set hkn] at hst2
      have HST := Lib.hid hst2
      clear hst2
      go_wp2_with fail
      go_roundg (n - (k + 1))
      case measure => omega
      case rel => exact ⟨k + 1, by omega, by omega, by go_num, HE.out.setCell (Nat.le_refl _) hgn _, HST.out⟩
    · obtain rfl : k = n := by omega
      have ho2 : OwnI R w.heap.size 3 wr (.slice (some ⟨w.heap.size, 0, none⟩) k k) (namesGo s 0).1 := by
        have := HO.out
        rw [namesGo_zero, HL.out]
        simpa using this
      have HO2 := Lib.hid ho2
      have HE2 := HE
      clear ho2
      go_wp2_with fail
      obtain ⟨wo, hwo⟩ : ∃ wo : World, wo = wr := ⟨_, rfl⟩
      subst hwo
      obtain ⟨n, hnk⟩ : ∃ n, n = k := ⟨_, rfl⟩
      subst hnk
      obtain ⟨a, ha⟩ : ∃ a : Option Addr, a = some ⟨w.heap.size, 0, none⟩ := ⟨_, rfl⟩
      obtain ⟨cap, hcap⟩ : ∃ c : Nat, c = n := ⟨_, rfl⟩
      clear HO HO1 HE HE1 hk hg hkn HLE
      go_loopg [5, 23] n (fun g v4 v14 wr => ∃ k : Nat, k ≤ n ∧ n - k ≤ g ∧ v4 = .int .i64 (((namesGo s k).2 : Nat) : Int) ∧ v14 = .int .i64 (k : Int) ∧ Ev R w R wr ∧ OwnI R w.heap.size 3 wr (.slice (some ⟨w.heap.size, 0, none⟩) n n) (namesGo s k).1)
      case atStart => exact ⟨0, Nat.zero_le _, by omega, rfl, rfl, HE2.out, HO2.out⟩
      case round =>
        obtain ⟨k, hk, hg, rfl, rfl, he, ho⟩ := hrel
        have HE := Lib.hid he
        have HO := Lib.hid ho
        clear he ho
        have hlen : (namesGo s k).1.length = n := by rw [namesGo_length, HL.out]
        have hcnt : (namesGo s k).2 ≤ k := namesGo_count s k
        have HN := Lib.hid (namesGo_succ s k)
        obtain ⟨N, C, hNC⟩ : ∃ N C, namesGo s k = (N, C) := ⟨_, _, rfl⟩
        rw [hNC] at HO HN hlen hcnt ⊢
        simp only at HO hlen hcnt ⊢
        have HNC := Lib.hid hNC
        have HLN := Lib.hid hlen
        clear hNC hlen
        by_cases hkn : k < n
        · obtain ⟨gb, cap', e1, hgb, hgn, hc, hz⟩ := HO.out.head (i := k) (by rw [HLN.out]; exact hkn)
          rw [HLN.out] at e1
          cases e1
          by_cases hold : 0 ≤ nth N k
          · go_wp2_with fail
            go_roundg (n - (k + 1))
            case measure => omega
            case rel =>
              have e2 : namesGo s (k + 1) = (N, C) := by rw [HN.out]; exact nameStep_old (by rw [nth_getD (by rw [HLN.out]; exact hkn)]; exact hold)
              exact ⟨k + 1, by omega, by omega, by rw [e2], by go_num, HE.out, by rw [e2]; exact HO.out⟩
          · have e2 : namesGo s (k + 1) = ((orbitL s k).foldl (fun l x => l.set x (C : Int)) N, C + 1) := by rw [HN.out]; exact nameStep_new (by rw [nth_getD (by rw [HLN.out]; exact hkn)]; exact hold)
            have HE2 := Lib.hid e2
            clear e2
            go_wp2_with fail
            refine (rorbit_any R wr HE.out.inv _ s (HV.out.ev HE.out) HS.out (by rw [HL.out]; exact hn) k (by rw [HL.out]; exact hkn)).mono ?_
            rintro e w3 ⟨vo, rfl, he3, ho3⟩
            have hsz3 := he3.size
            have hszr := HE.out.size
            have hgblt : w.heap.size < wr.heap.size := by
              have := HO.out.lt w.heap.size (by rfl)
              omega
            have hof : FreeI R w3 vo (toI (orbitL s k)) := ho3.free
            have hob : ∀ q, vo.ownBlock = some q → q ≠ w.heap.size := fun q hq => by
              have := ho3.lt q hq
              omega
            have hlo : (orbitL s k).length ≤ n + 1 := by have := orbitL_length s k; rw [HL.out] at this; exact this
            have hin : ∀ y ∈ orbitL s k, y < n := by have := orbitL_lt HS.out (i := k) (by rw [HL.out]; exact hkn); rw [HL.out] at this; exact this
            obtain ⟨ao, co, rfl, _⟩ := hof.1.open
            obtain ⟨L, hL⟩ : ∃ L, orbitL s k = L := ⟨_, rfl⟩
            rw [hL] at hof hlo hin HE2 hob ⊢
            rw [toI_length] at hof hob ⊢
            have he4 := HE.out.trans he3
            have ho4 : OwnI R w.heap.size 3 w3 (.slice (some ⟨w.heap.size, 0, none⟩) n n) N := HO.out.ev he3
            have HF := Lib.hid hof
            have HB := Lib.hid hob
            have HIN := Lib.hid hin
            have HE4 := Lib.hid he4
            have HO4 := Lib.hid ho4
            obtain ⟨m, hm⟩ : ∃ m, L.length = m := ⟨_, rfl⟩
            have HM := Lib.hid hm
            rw [hm] at hlo HF HB ⊢
            clear he3 ho3 hof hob hin hL he4 ho4 hc hz hm hsz3
            go_wp2_with fail
            obtain ⟨wo, hwo⟩ : ∃ wo : World, wo = w3 := ⟨_, rfl⟩
            subst hwo
            go_loopg [35] m (fun g' v26 wq => ∃ j : Nat, j ≤ m ∧ m - j ≤ g' ∧ v26 = .int .i64 (j : Int) ∧ Ev R w R wq ∧ OwnI R w.heap.size 3 wq (.slice (some ⟨w.heap.size, 0, none⟩) n n) ((L.take j).foldl (fun l x => l.set x (C : Int)) N) ∧ FreeI R wq (.slice ao m co) (toI L))
            case atStart => exact ⟨0, Nat.zero_le _, by omega, rfl, HE4.out, HO4.out, HF.out⟩
            case round =>
              obtain ⟨j, hj, hg', rfl, heq, hoq, hfq⟩ := hrel
              have HEQ := Lib.hid heq
              have HOQ := Lib.hid hoq
              have HFQ := Lib.hid hfq
              clear heq hoq hfq
              by_cases hjm : j < m
              · obtain ⟨b', off, rfl, hcx⟩ := HFQ.out.1.cell (i := j) (by rw [toI_length, HM.out]; exact hjm)
                rw [toI_nth] at hcx
                have hjL : j < L.length := by rw [HM.out]; exact hjm
                have hy : at' L j < n := by rw [at'_eq hjL]; exact HIN.out _ (List.getElem_mem hjL)
                have hfold := foldl_take_succ (fun (l : List Int) x => l.set x (C : Int)) N L j hjL
                rw [← at'_eq hjL] at hfold
                have HFO := Lib.hid hfold
                obtain ⟨y, hye⟩ : ∃ y, at' L j = y := ⟨_, rfl⟩
                rw [hye] at hcx hy HFO
                obtain ⟨M, hM⟩ : ∃ M, (L.take j).foldl (fun (l : List Int) x => l.set x (C : Int)) N = M := ⟨_, rfl⟩
                rw [hM] at HOQ HFO
                have hMl : M.length = n := by rw [← hM, foldl_set_length, HLN.out]
                obtain ⟨gb', cap'', e1, _, _, hcy, hzy⟩ := HOQ.out.head (i := y) (by rw [hMl]; exact hy)
                rw [hMl] at e1
                cases e1
                have hst := HOQ.out
                rw [← hMl] at hst
                have hst2 := hst.store y (by rw [hMl]; exact hy) (C : Int)
                rw [hMl] at hst2
                have HST := Lib.hid hst2
                clear hye hM hMl hfold hst hst2
                go_wp2_with fail
                go_roundg (m - (j + 1))
                case measure => omega
                case rel =>
                  refine ⟨j + 1, by omega, by omega, by go_num, HEQ.out.setCell hgb hgn _, ?_, HFQ.out.setCell (fun e => ?_) _⟩
                  · rw [HFO.out]; exact HST.out
                  · exact HB.out _ e rfl
              · obtain rfl : j = m := by omega
                go_wp2_with fail
                go_roundg (n - (k + 1))
                case measure => omega
                case rel =>
                  refine ⟨k + 1, by omega, by omega, ?_, by go_num, HEQ.out, ?_⟩
                  · rw [HE2.out]; go_num
                  · rw [HE2.out]
                    have := HOQ.out
                    rw [List.take_of_length_le (by rw [HM.out]; exact Nat.le_refl _)] at this
                    exact this
        · obtain rfl : k = n := by omega
          go_wp2_with fail
          go_ret
          refine ⟨_, rfl, HE.out, ?_⟩
          have : namesL s = N := by unfold namesL; rw [HL.out, HNC.out]
          rw [this]
          exact HO.out

end Go.Proofs.Ytnbecpeiodcohaa
