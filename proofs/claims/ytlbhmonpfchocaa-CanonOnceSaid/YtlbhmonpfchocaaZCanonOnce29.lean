/- parquetryref11.Mixed: a map by other names. Conditions: the map's list, the bytes and the bools lie in memory. parquetrylaw11.CanonOnce, the walk: it answers true. Conditions: the rows lie in memory. -/
import Derived.Test.YtlbhmonpfchocaaZCanonOnce27
import Derived.Test.YtlbhmonpfchocaaZCanonOnce11
import Derived.Test.YtlbhmonpfchocaaZCanonOnce28
import Derived.Test.YtlbhmonpfchocaaZCanonOnce22
import Derived.Test.YtlbhmonpfchocaaZCanonOnce26
import Derived.Test.YtlbhmonpfchocaaZCanonOnce18
namespace Go.Proofs.Ytlbhmonpfchocaa
open Go.RowKit
set_option linter.unusedVariables false

/-- a map by other names, and these -/
def RetMix (R : Reg) (w : World) (s T : List Nat) (r lone : Int) (e : Ending) (w' : World) : Prop :=
  ∃ a c b d, e = .returned (.tuple #[refV (.slice a s.length c) r lone, .slice b s.length d]) ∧ Ev R w R w' ∧ OwnI R w.heap.size 3 w' (.slice a s.length c) (toI (relL s T)) ∧ OwnI R w.heap.size 3 w' (.slice b s.length d) (toI T)

set_option maxRecDepth 100000 in
set_option maxHeartbeats 4000000 in
theorem r11mixed_any (R : Reg) (w : World) (hI : Inv R w) (v : Value) (s : List Nat) (root lone : Int) (hv : FreeI R w v (toI s)) (hS : IsPerm s) (hok : MapOk s root lone) (hn : s.length ≤ 1000) (vb : Value) (bs : List Nat) (hb : FreeB R w vb bs) (vt : Value) (fn : Nat) (fb : Nat → Bool) (ht : FreeT R w vt fn fb)
    (fbb : Nat → Bool) (hfb : fbb = fun i => decide (i < fn) && fb i) (M : List Nat) (hM : mixL (s.length / 2) bs = M) :
    Calls Try.prog 40 #[refV v root lone, vb, vt] w (RetMix R w s (lblL M fbb M.length) (atI (lblL M fbb M.length) root) lone) := by
  obtain ⟨a0, cap0, rfl, hv0⟩ := hv.open
  rw [toI_length] at hv hv0 ⊢
  have he := hok.1
  have HFb : Hid (∀ i, fbb i = (decide (i < fn) && fb i)) := Lib.hid fun i => by rw [hfb]
  have HMx := Lib.hid (fun w' (hee : Ev R w R w') => (by
    have h := rmix_any R w' hee.inv (s.length / 2) (by omega) vb bs (hb.ev hee)
    rw [hM] at h
    exact h : Calls Try.prog 71 #[.int .i64 ((s.length / 2 : Nat) : Int), vb] w' (RetOwn R w' (toI M))))
  have hMl : M.length = s.length / 2 := by rw [← hM]; exact mixL_length _ _
  have hMp : IsPerm M := by rw [← hM]; exact mixL_perm _ _
  have HMp := Lib.hid hMp
  have htp := lbl_perm hMp fbb
  have htl := lblL_length M fbb M.length
  have hroot := hok.2.2.2.2
  obtain ⟨n, hnn⟩ : ∃ n, s.length = n := ⟨_, rfl⟩
  obtain ⟨E, hE⟩ : ∃ E, n / 2 = E := ⟨_, rfl⟩
  have hEn : n = 2 * E := by omega
  have HEn := Lib.hid hEn
  have hEb : E ≤ 500 := by omega
  rw [hnn, hE] at hMl HMx
  have hTl0 : (lblL M fbb M.length).length = n := by rw [htl, hMl]; omega
  have HML := Lib.hid hMl
  obtain ⟨T, hT⟩ : ∃ T, lblL M fbb M.length = T := ⟨_, rfl⟩
  have HT := Lib.hid hT
  rw [hT] at htp hTl0 ⊢
  have hTs : T.length = s.length := by rw [hTl0, hnn]
  have HGo := Lib.hid (fun i (hi : i < s.length) => relGo_set htp hTs hi)
  have HGl := Lib.hid (fun i => relGo_length s T i)
  have HZ := Lib.hid (relGo_zero s T)
  have HAl := Lib.hid (relGo_all htp hTs)
  have HTlt := Lib.hid (fun i (hi : i < s.length) => (by have := htp.lt (i := i) (by rw [hTs]; exact hi); omega : at' T i < s.length))
  have HSlt := Lib.hid (fun i (hi : i < s.length) => hS.lt hi)
  have HFv := Lib.hid (fun R' w' (hee : Ev R w R' w') => hv.ev hee)
  have HVt := Lib.hid (fun R' w' (hee : Ev R w R' w') => ht.ev hee)
  have hgoal : RetMix R w s T (atI T root) lone = fun e w' => ∃ a c b d, e = .returned (.tuple #[refV (.slice a n c) (atI T root) lone, .slice b n d]) ∧ Ev R w R w' ∧ OwnI R w.heap.size 3 w' (.slice a n c) (toI (relL s T)) ∧ OwnI R w.heap.size 3 w' (.slice b n d) (toI T) := by unfold RetMix; rw [hnn]
  rw [hgoal]
  rw [hnn] at HGo HGl HZ HAl HTlt HSlt HFv hn hroot ⊢
  have HNn := Lib.hid hnn
  have HTl := Lib.hid hTl0
  have HRr := Lib.hid hroot
  obtain ⟨ab, cb, rfl, _⟩ := hb
  obtain ⟨at1, ct, rfl, _⟩ := ht
  unfold refV
  obtain ⟨i0, hi, hz0, hz1, hz2⟩ := info_parts int_info
  have hms1 := make_eq (n := n) Try.underlying32 hi hz0 hz1 (by rw [hz2]; omega) (by unfold maxLen; omega)
  have hbd := build_mapC
  have he1 : Ev R w R ((w.alloc (.cells #[.slice a0 n cap0, .int .i64 root, .int .i64 lone] 34)).alloc (.cells #[.slice none 0 0, .int .i64 0, .int .i64 0] 34)) := ((Ev.refl hI).alloc _).alloc _
  have hb1 : ((w.alloc (.cells #[.slice a0 n cap0, .int .i64 root, .int .i64 lone] 34)).alloc (.cells #[.slice none 0 0, .int .i64 0, .int .i64 0] 34)).heap[w.heap.size]? = some (.cells #[.slice a0 n cap0, .int .i64 root, .int .i64 lone] 34 (0, 0)) := by
    rw [Below.heap_alloc _ _ _ (by simp)]
    exact heap_alloc_new w _
  have hb2 : ((w.alloc (.cells #[.slice a0 n cap0, .int .i64 root, .int .i64 lone] 34)).alloc (.cells #[.slice none 0 0, .int .i64 0, .int .i64 0] 34)).heap[w.heap.size + 1]? = some (.cells #[.slice none 0 0, .int .i64 0, .int .i64 0] 34 (0, 0)) := by
    have := heap_alloc_new (w.alloc (.cells #[.slice a0 n cap0, .int .i64 root, .int .i64 lone] 34)) (.cells #[.slice none 0 0, .int .i64 0, .int .i64 0] 34)
    simpa using this
  have hn1 : R w.heap.size = none := hI.none_of_ge (Nat.le_refl _)
  have hn2 : R (w.heap.size + 1) = none := hI.none_of_ge (by omega)
  have HMaxl := Lib.hid (show n ≤ maxLen by unfold maxLen; omega)
  clear hEn hE
  go_enter Try.func40, Try.ntmps40
  go_upto_region 1 with fail
  obtain ⟨wb, hwb⟩ : ∃ wb, wb = (w.alloc (.cells #[.slice a0 n cap0, .int .i64 root, .int .i64 lone] 34)).alloc (.cells #[.slice none 0 0, .int .i64 0, .int .i64 0] 34) := ⟨_, rfl⟩
  have hwz : wb.heap.size = w.heap.size + 1 + 1 := by rw [hwb]; simp
  rw [← hwb] at he1 hb1 hb2 ⊢
  have HB1 := Lib.hid (fun w' (h : Ev R wb R w') => h.boxC3 hb1 hn1)
  have HB2 := Lib.hid (fun w' (h : Ev R wb R w') => h.boxC3 hb2 hn2)
  have HEb := Lib.hid he1
  have HZb := Lib.hid hwz
  obtain ⟨x0, x1, x2, _⟩ := boxC_cells hb1
  clear hwb hb1 hb2 hn1 hn2 hI hv hv0 hS he1 hnn hT htp hTs hTl0 htl hroot hM hMl hMp hfb hgoal he hok hwz
  have hw0 : wrap64 ((n : Int) / 2) = (E : Int) := by have := HEn.out; unfold wrap64; omega
  have hq0 : (n : Int) / 2 = (E : Int) := by have := HEn.out; omega
  go_wp2_with fail
  first | rw [hq0] | skip
  refine (HMx.out _ HEb.out).mono ?_
  rintro z w4 ⟨v4, rfl, he4, ho4⟩
  obtain ⟨a4, c4, rfl, _⟩ := ho4.ints.open
  rw [toI_length, HML.out] at ho4 ⊢
  have HE4 := Lib.hid he4
  have HO4 := Lib.hid ho4
  clear he4 ho4 HMx x0 x1 x2 hw0 hq0
  go_wp2_with fail
  go_loopg [8, 22] E (fun g v8 v22 wr => ∃ (i : Nat) (a6 : Option Addr) (l6 c6 : Nat), i ≤ E ∧ E - i ≤ g ∧ v22 = .int .i64 (i : Int) ∧ v8 = .slice a6 l6 c6 ∧ Ev R w4 R wr ∧ OwnI R w4.heap.size 3 wr (.slice a6 l6 c6) (toI (lblL M fbb i)))
  case atStart => exact ⟨0, none, 0, 0, Nat.zero_le _, by omega, rfl, rfl, Ev.refl HE4.out.inv, OwnI.nil _ _ _ _⟩
  case round =>
    obtain ⟨i, a6, l6, c6, hie, hg, rfl, rfl, hev, ho6⟩ := hrel
    have HE := Lib.hid hev
    have HO6 := Lib.hid ho6
    clear hev ho6
    by_cases hil : i < E
    · obtain ⟨g4, rfl, _, _, k0, _⟩ := (HO4.out.ev HE.out).headAt (xs := toI M) (by rw [toI_length, HML.out]) hil
      rw [toI_nth] at k0
      obtain ⟨tt, htt⟩ : ∃ k, at' M i = k := ⟨_, rfl⟩
      have hEn2 := HEn.out
      have htl : tt < E := by have := HMp.out.lt (i := i) (by rw [HML.out]; exact hil); rw [htt, HML.out] at this; exact this
      rw [htt] at k0
      have hlb := lblN_even M fbb i
      rw [htt] at hlb
      have hsucc := lblL_succ M fbb i
      have hll : (toI (lblL M fbb i)).length ≤ 1000 := by rw [toI_length, lblL_length]; omega
      have hz : w4.heap.size ≤ wr.heap.size := HE.out.size
      obtain ⟨xa, hxa⟩ : ∃ k, 2 * tt = k := ⟨_, rfl⟩
      obtain ⟨xb, hxb⟩ : ∃ k, xa + 1 = k := ⟨_, rfl⟩
      have hma : xa ^^^ 1 = xb := by rw [← hxb, ← hxa, xor_even]
      have hmb : xb ^^^ 1 = xa := by rw [← hma, xor_one_one]
      have hw2 : IntKind.i64.wrap (2 * (tt : Int)) = (xa : Int) := by rw [show 2 * (tt : Int) = (xa : Int) by omega]; exact IntWalk.i64_in _ (by omega)
      have hw3 : IntKind.i64.wrap ((xa : Int) + 1) = (xb : Int) := by rw [show (xa : Int) + 1 = (xb : Int) by omega]; exact IntWalk.i64_in _ (by omega)
      have hxl : xa ≤ 1000 := by omega
      have hxl2 : xb ≤ 1001 := by omega
      clear hEn2
      rw [hxa, hxb] at hlb
      clear hxa hxb htt
      have hif := HFb.out i
      by_cases hifn : i < fn
      · obtain ⟨a9, c9, e9, hm9, hc9⟩ := HVt.out _ _ (HEb.out.trans (HE4.out.trans HE.out))
        cases e9
        obtain ⟨b9, o9, rfl, _, k9⟩ := hc9 i hifn
        have hd1 : decide ((i : Int) < (fn : Int)) = true := by simp; exact hifn
        have hd2 : (i : Int) < (fn : Int) := by omega
        clear hc9
        rw [decide_eq_true hifn, Bool.true_and] at hif
        cases hfi : fb i with
        | true =>
          rw [hfi] at k9 hif
          have hflip : fbb i = true := hif
          rw [if_pos hflip, if_pos hflip] at hlb
          rw [hlb.1, hlb.2] at hsucc
          have HSc := Lib.hid hsucc
          have HEa := Lib.hid (HE.out.alloc (.cells #[.int .i64 ((xb : Nat) : Int), .int .i64 ((xa : Nat) : Int)] 3))
          have HOa := Lib.hid (HO6.out.alloc (.cells #[.int .i64 ((xb : Nat) : Int), .int .i64 ((xa : Nat) : Int)] 3))
          have HLl := Lib.hid hll
          have HMt := Lib.hid (rmate_any wr xb (by omega))
          rw [hmb] at HMt
          clear hsucc hlb hif hll
          go_wp2_with fail
          refine HMt.out.mono ?_
          rintro z w' ⟨rfl, rfl⟩
          go_wp2_with (at_builtin; refine wpList_app_ints (R := R) (B := w4.heap.size) rfl _ _ rfl HOa.out rfl ⟨wr.heap.size, 0, none⟩ 2 2 [((xb : Nat) : Int), ((xa : Nat) : Int)] rfl ?a0 ?a1 ?a2 ?a3 ?a4 ?_)
          try (case a0 => first | rfl | simp)
          case a1 =>
            intro j hj
            match j, hj with
            | 0, _ => simp [Addr.add, nth]
            | 1, _ => simp [Addr.add, nth]
          case a2 => have := HLl.out; omega
          case a3 => first | omega | (simp; omega)
          case a4 => exact fun q hq => HEa.out.inv.none_of_ge (by simp at hq ⊢; omega)
          intro v8 w6 ho8 hg6 hs6
          have hap : toI (lblL M fbb i) ++ [((xb : Nat) : Int), ((xa : Nat) : Int)] = toI (lblL M fbb (i + 1)) := by rw [HSc.out]; simp [toI]
          rw [hap] at ho8
          obtain ⟨a8, c8, rfl, _⟩ := ho8.ints.open
          obtain ⟨l8, hl8⟩ : ∃ l, (toI (lblL M fbb (i + 1))).length = l := ⟨_, rfl⟩
          rw [hl8] at ho8 hs6
          try rw [hl8]
          have HE8 := Lib.hid (HEa.out.app HOa.out (Nat.le_refl _) hg6)
          have HO8 := Lib.hid ho8
          clear hl8 hap ho8 hg6 hs6
          go_wp2_with fail
          go_roundg (E - (i + 1))
          case measure => omega
          case rel => exact ⟨i + 1, a8, l8, c8, by omega, by omega, by go_num, rfl, HE8.out, HO8.out⟩
        | false =>
          rw [hfi] at k9 hif
          have hflip : ¬ fbb i = true := by rw [hif]; simp
          rw [if_neg hflip, if_neg hflip] at hlb
          rw [hlb.1, hlb.2] at hsucc
          have HSc := Lib.hid hsucc
          have HEa := Lib.hid (HE.out.alloc (.cells #[.int .i64 ((xa : Nat) : Int), .int .i64 ((xb : Nat) : Int)] 3))
          have HOa := Lib.hid (HO6.out.alloc (.cells #[.int .i64 ((xa : Nat) : Int), .int .i64 ((xb : Nat) : Int)] 3))
          have HLl := Lib.hid hll
          have HMt := Lib.hid (rmate_any wr xa (by omega))
          rw [hma] at HMt
          clear hsucc hlb hif hll
          go_wp2_with fail
          refine HMt.out.mono ?_
          rintro z w' ⟨rfl, rfl⟩
          go_wp2_with (at_builtin; refine wpList_app_ints (R := R) (B := w4.heap.size) rfl _ _ rfl HOa.out rfl ⟨wr.heap.size, 0, none⟩ 2 2 [((xa : Nat) : Int), ((xb : Nat) : Int)] rfl ?a0 ?a1 ?a2 ?a3 ?a4 ?_)
          try (case a0 => first | rfl | simp)
          case a1 =>
            intro j hj
            match j, hj with
            | 0, _ => simp [Addr.add, nth]
            | 1, _ => simp [Addr.add, nth]
          case a2 => have := HLl.out; omega
          case a3 => first | omega | (simp; omega)
          case a4 => exact fun q hq => HEa.out.inv.none_of_ge (by simp at hq ⊢; omega)
          intro v8 w6 ho8 hg6 hs6
          have hap : toI (lblL M fbb i) ++ [((xa : Nat) : Int), ((xb : Nat) : Int)] = toI (lblL M fbb (i + 1)) := by rw [HSc.out]; simp [toI]
          rw [hap] at ho8
          obtain ⟨a8, c8, rfl, _⟩ := ho8.ints.open
          obtain ⟨l8, hl8⟩ : ∃ l, (toI (lblL M fbb (i + 1))).length = l := ⟨_, rfl⟩
          rw [hl8] at ho8 hs6
          try rw [hl8]
          have HE8 := Lib.hid (HEa.out.app HOa.out (Nat.le_refl _) hg6)
          have HO8 := Lib.hid ho8
          clear hl8 hap ho8 hg6 hs6
          go_wp2_with fail
          go_roundg (E - (i + 1))
          case measure => omega
          case rel => exact ⟨i + 1, a8, l8, c8, by omega, by omega, by go_num, rfl, HE8.out, HO8.out⟩
      · have hd1 : decide ((i : Int) < (fn : Int)) = false := by simp; omega
        have hd2 : ¬ (i : Int) < (fn : Int) := by omega
        rw [decide_eq_false hifn, Bool.false_and] at hif
        have hflip : ¬ fbb i = true := by rw [hif]; simp
        rw [if_neg hflip, if_neg hflip] at hlb
        rw [hlb.1, hlb.2] at hsucc
        have HSc := Lib.hid hsucc
        have HEa := Lib.hid (HE.out.alloc (.cells #[.int .i64 ((xa : Nat) : Int), .int .i64 ((xb : Nat) : Int)] 3))
        have HOa := Lib.hid (HO6.out.alloc (.cells #[.int .i64 ((xa : Nat) : Int), .int .i64 ((xb : Nat) : Int)] 3))
        have HLl := Lib.hid hll
        have HMt := Lib.hid (rmate_any wr xa (by omega))
        rw [hma] at HMt
        clear hsucc hlb hif hll
        go_wp2_with fail
        refine HMt.out.mono ?_
        rintro z w' ⟨rfl, rfl⟩
        go_wp2_with (at_builtin; refine wpList_app_ints (R := R) (B := w4.heap.size) rfl _ _ rfl HOa.out rfl ⟨wr.heap.size, 0, none⟩ 2 2 [((xa : Nat) : Int), ((xb : Nat) : Int)] rfl ?a0 ?a1 ?a2 ?a3 ?a4 ?_)
        try (case a0 => first | rfl | simp)
        case a1 =>
          intro j hj
          match j, hj with
          | 0, _ => simp [Addr.add, nth]
          | 1, _ => simp [Addr.add, nth]
        case a2 => have := HLl.out; omega
        case a3 => first | omega | (simp; omega)
        case a4 => exact fun q hq => HEa.out.inv.none_of_ge (by simp at hq ⊢; omega)
        intro v8 w6 ho8 hg6 hs6
        have hap : toI (lblL M fbb i) ++ [((xa : Nat) : Int), ((xb : Nat) : Int)] = toI (lblL M fbb (i + 1)) := by rw [HSc.out]; simp [toI]
        rw [hap] at ho8
        obtain ⟨a8, c8, rfl, _⟩ := ho8.ints.open
        obtain ⟨l8, hl8⟩ : ∃ l, (toI (lblL M fbb (i + 1))).length = l := ⟨_, rfl⟩
        rw [hl8] at ho8 hs6
        try rw [hl8]
        have HE8 := Lib.hid (HEa.out.app HOa.out (Nat.le_refl _) hg6)
        have HO8 := Lib.hid ho8
        clear hl8 hap ho8 hg6 hs6
        go_wp2_with fail
        go_roundg (E - (i + 1))
        case measure => omega
        case rel => exact ⟨i + 1, a8, l8, c8, by omega, by omega, by go_num, rfl, HE8.out, HO8.out⟩
    · obtain rfl : i = E := by omega
      have hl6 : l6 = n := by
        have := HEn.out
        have := HO6.out.ints.length_eq
        rw [toI_length, lblL_length] at this
        omega
      subst hl6
      have ho := HO6.out
      rw [show lblL M fbb i = T by rw [← HT.out, HML.out]] at ho
      have HP := Lib.hid ho
      have HE3 := Lib.hid (HE4.out.trans HE.out)
      obtain ⟨w3, hw3⟩ : ∃ w3, w3 = wr := ⟨_, rfl⟩
      subst hw3
      obtain ⟨n, hnl⟩ : ∃ n, n = l6 := ⟨_, rfl⟩
      subst hnl
      obtain ⟨x0, x1, x2, _⟩ := boxC_cells (HB1.out _ HE3.out).1
      have hlt0 : w.heap.size < w3.heap.size := lt_of_cell x0
      clear ho HO6 HE hil
      go_wp2_with fail
      go_cut [12] (fun s4 wx => ∃ bo gS, s4 = .pointer (some ⟨bo, 0, none⟩) ∧ OutC R w3 wx bo gS n (List.replicate n 0) root lone)
      case first =>
        go_region
        all_goals (go_wp2_with fail; go_meet)
        all_goals first
          | exact ⟨_, _, rfl, outC_first HE3.out.inv HMaxl.out⟩
          | exact ⟨_, _, rfl, outC_second HE3.out.inv HMaxl.out⟩
      case rest =>
        obtain ⟨bo, gS, rfl, hout⟩ := hcut
        obtain ⟨w5, hw5⟩ : ∃ w5, w5 = wc := ⟨_, rfl⟩
        subst hw5
        rw [← HZ.out] at hout
        have HOut := Lib.hid hout
        clear hout hms1 hbd hi hz0 hz1 hz2 x0 x1 x2
        obtain ⟨x0, x1, x2, _⟩ := boxC_cells (HB1.out _ (HE3.out.trans HOut.out.ev)).1
        go_wp2_with fail
        clear x0 x1 x2
        go_loopg [60] n (fun g v60 wr => ∃ i : Nat, i ≤ n ∧ n - i ≤ g ∧ v60 = .int .i64 (i : Int) ∧ OutC R w3 wr bo gS n (relGo s T i) root lone)
        case atStart => exact ⟨0, Nat.zero_le _, by omega, rfl, HOut.out⟩
        case round =>
          obtain ⟨i, hi, hg, rfl, ho⟩ := hrel
          have HO := Lib.hid ho
          clear ho
          by_cases hin : i < n
          · have hgo := HGo.out i hin
            have htl1 := HTlt.out i hin
            have hsl1 := HSlt.out i hin
            have htl2 := HTlt.out (at' s i) hsl1
            obtain ⟨bS, oS, e1, hcs⟩ := (HFv.out _ _ (HEb.out.trans (HE3.out.trans HO.out.ev))).1.cell (i := i) (by rw [toI_length, HNn.out]; exact hin)
            subst e1
            rw [toI_nth] at hcs
            have hp3 := HP.out.ev HO.out.ev
            obtain ⟨g3, e2, _, _, k1, _⟩ := hp3.headAt (by rw [toI_length]; exact HTl.out) hin
            subst e2
            obtain ⟨_, e2, _, _, k2, _⟩ := hp3.headAt (by rw [toI_length]; exact HTl.out) hsl1
            cases e2
            rw [toI_nth] at k1 k2
            obtain ⟨x, hx⟩ : ∃ x, at' s i = x := ⟨_, rfl⟩
            rw [hx] at hcs hsl1 htl2 k2 hgo
            obtain ⟨y1, hy1⟩ : ∃ x, at' T i = x := ⟨_, rfl⟩
            rw [hy1] at htl1 k1 hgo
            obtain ⟨y2, hy2⟩ : ∃ y, at' T x = y := ⟨_, rfl⟩
            rw [hy2] at htl2 k2 hgo
            obtain ⟨c0, c1, c2, cz⟩ := HO.out.cells
            obtain ⟨_, e2, hBg, hRg, kc, zc⟩ := HO.out.own.headAt (HGl.out i) htl1
            cases e2
            have HGg := Lib.hid hgo
            clear hgo hx hy1 hy2 hp3 c1 c2 cz
            go_upto_region 14 with fail
            go_still_tail 11, (by kernel_rfl)
            change wpList _ _ _ _ _ wr.drew
            obtain ⟨w7, hw7⟩ : ∃ w7, w7 = wr.drew := ⟨_, rfl⟩
            have hz7 : w7.frozen? ⟨gS, y1, none⟩ = false := by rw [hw7]; exact zc
            have hc7 : w7.cell? ⟨gS, y1, none⟩ = some (.int .i64 (nth (relGo s T i) y1)) := by rw [hw7]; exact kc
            have HO7 : Hid (OutC R w3 (w7.setCell ⟨gS, y1, none⟩ (.int .i64 ((y2 : Nat) : Int))) bo gS n (relGo s T (i + 1)) root lone) := Lib.hid (by
              rw [hw7, ← HGg.out]
              exact HO.out.drew.putS htl1 ((y2 : Nat) : Int))
            rw [← hw7]
            clear hw7 zc kc c0 hcs k1 k2
            go_wp2_with fail
            go_roundg (n - (i + 1))
            case measure => omega
            case rel => exact ⟨i + 1, by omega, by omega, by go_num, HO7.out⟩
          · obtain rfl : i = n := by omega
            obtain ⟨x0, x1, x2, _⟩ := boxC_cells (HB1.out _ (HE3.out.trans HO.out.ev)).1
            obtain ⟨c0, c1, c2, cz⟩ := HO.out.cells
            by_cases hi0 : i = 0
            · obtain rfl : i = 0 := hi0
              have hrr : atI T root = root := by
                have h1 := HRr.out
                have h2 : root = -1 := by omega
                rw [h2]; exact atI_out (Or.inl (by omega))
              have hOf := HO.out
              rw [HAl.out] at hOf
              have HRt := Lib.hid hrr
              have HOf := Lib.hid hOf
              clear hOf hrr
              go_upto_region 18 with fail
              clear c0 c1 c2 cz x0 x1 x2
              obtain ⟨c0, c1, c2, cz⟩ := HOf.out.cells
              have hEv7 := HE3.out.trans HOf.out.ev
              obtain ⟨y0, y1, y2, yz⟩ := boxC_cells (HB2.out _ hEv7).1
              go_wp2_with fail
              have hb3 := set3 (x := .slice (some ⟨gS, 0, none⟩) 0 0) (y := .int .i64 root) (z := .int .i64 lone) (HB2.out _ hEv7).1
              obtain ⟨u0, u1, u2, _⟩ := boxC_cells hb3
              have hn2 := (HB2.out _ hEv7).2
              have hgr := (HOf.out.own.lt gS rfl).1
              have hz3 := HE3.out.size
              have hp7 := HP.out.ev HOf.out.ev
              have hne : ∀ (o : Nat), (Value.slice (some ⟨gS, 0, none⟩) 0 0).ownBlock ≠ some (⟨w.heap.size + 1, o, none⟩ : Addr).block := fun o e' => by
                have h1 : gS = w.heap.size + 1 := by simpa [Value.ownBlock] using e'
                have h2 := HZb.out
                omega
              have hne2 : ∀ (o : Nat), (Value.slice a6 0 c6).ownBlock ≠ some (⟨w.heap.size + 1, o, none⟩ : Addr).block := fun o e' => by
                have h1 := (hp7.lt _ e').1
                have h2 := HZb.out
                have h4 := HE4.out.size
                have h3 : (⟨w.heap.size + 1, o, none⟩ : Addr).block = w.heap.size + 1 := rfl
                omega
              refine bodyPost_ret (v := .tuple #[refV (.slice (some ⟨gS, 0, none⟩) 0 0) root lone, Value.slice a6 0 c6]) ?_ rfl ?_
              · simp [results, Try.results40, go_sem, u0, u1, u2, refV]
              · refine ⟨some ⟨gS, 0, none⟩, 0, a6, c6, by rw [HRt.out]; rfl, ?_, ?_, ?_⟩
                · exact (((HEb.out.trans hEv7).setCell (by simp) hn2 _).setCell (by simp) hn2 _).setCell (by simp) hn2 _
                · exact (((HOf.out.own.mono (by have := HZb.out; omega)).setCell (hne 0) _).setCell (hne 1) _).setCell (hne 2) _
                · exact (((hp7.mono (by have := HZb.out; have := HE4.out.size; omega)).setCell (hne2 0) _).setCell (hne2 1) _).setCell (hne2 2) _
            · have hip : 0 < i := by omega
              obtain ⟨r0, rfl⟩ : ∃ r0 : Nat, root = (r0 : Int) := ⟨root.toNat, by have := HRr.out; omega⟩
              have hr0 : r0 < i := by have := HRr.out; omega
              obtain ⟨g3, e2, _, _, k1, _⟩ := (HP.out.ev HO.out.ev).headAt (by rw [toI_length]; exact HTl.out) hr0
              subst e2
              rw [toI_nth] at k1
              have hrr : atI T (r0 : Int) = ((at' T r0 : Nat) : Int) := atI_in (by rw [HTl.out]; exact hr0)
              obtain ⟨rt, hrt⟩ : ∃ x, at' T r0 = x := ⟨_, rfl⟩
              rw [hrt] at hrr k1
              have HRt := Lib.hid hrr
              have hOf := HO.out.putR (rt : Int)
              rw [HAl.out] at hOf
              clear hrr hrt
              go_upto_region 18 with fail
              obtain ⟨w7, hw7⟩ : ∃ w7, w7 = wr.setCell ⟨bo, 1, none⟩ (.int .i64 (rt : Int)) := ⟨_, rfl⟩
              rw [← hw7] at hOf
              first | rw [← hw7] | skip
              have HOf := Lib.hid hOf
              clear hw7 hOf k1
              clear c0 c1 c2 cz x0 x1 x2
              obtain ⟨c0, c1, c2, cz⟩ := HOf.out.cells
              have hEv7 := HE3.out.trans HOf.out.ev
              obtain ⟨y0, y1, y2, yz⟩ := boxC_cells (HB2.out _ hEv7).1
              go_wp2_with fail
              have hb3 := set3 (x := .slice (some ⟨gS, 0, none⟩) i i) (y := .int .i64 (rt : Int)) (z := .int .i64 lone) (HB2.out _ hEv7).1
              obtain ⟨u0, u1, u2, _⟩ := boxC_cells hb3
              have hn2 := (HB2.out _ hEv7).2
              have hgr := (HOf.out.own.lt gS rfl).1
              have hz3 := HE3.out.size
              have hp7 := HP.out.ev HOf.out.ev
              have hne : ∀ (o : Nat), (Value.slice (some ⟨gS, 0, none⟩) i i).ownBlock ≠ some (⟨w.heap.size + 1, o, none⟩ : Addr).block := fun o e' => by
                have h1 : gS = w.heap.size + 1 := by simpa [Value.ownBlock] using e'
                have h2 := HZb.out
                omega
              have hne2 : ∀ (o : Nat), (Value.slice (some ⟨g3, 0, none⟩) i c6).ownBlock ≠ some (⟨w.heap.size + 1, o, none⟩ : Addr).block := fun o e' => by
                have h1 := (hp7.lt _ e').1
                have h2 := HZb.out
                have h4 := HE4.out.size
                have h3 : (⟨w.heap.size + 1, o, none⟩ : Addr).block = w.heap.size + 1 := rfl
                omega
              refine bodyPost_ret (v := .tuple #[refV (.slice (some ⟨gS, 0, none⟩) i i) (rt : Int) lone, Value.slice (some ⟨g3, 0, none⟩) i c6]) ?_ rfl ?_
              · simp [results, Try.results40, go_sem, u0, u1, u2, refV]
              · refine ⟨some ⟨gS, 0, none⟩, i, some ⟨g3, 0, none⟩, c6, by rw [HRt.out]; rfl, ?_, ?_, ?_⟩
                · exact (((HEb.out.trans hEv7).setCell (by simp) hn2 _).setCell (by simp) hn2 _).setCell (by simp) hn2 _
                · exact (((HOf.out.own.mono (by have := HZb.out; omega)).setCell (hne 0) _).setCell (hne 1) _).setCell (hne 2) _
                · exact (((hp7.mono (by have := HZb.out; have := HE4.out.size; omega)).setCell (hne2 0) _).setCell (hne2 1) _).setCell (hne2 2) _

end Go.Proofs.Ytlbhmonpfchocaa

namespace Go.Proofs.Ytlbhmonpfchocaa
open Go.RowKit
set_option linter.unusedVariables false

set_option maxRecDepth 100000 in
set_option maxHeartbeats 8000000 in
theorem canonOnce_walk (w : World) (n rt : Nat) (hn : n ≤ 255) (hr : rt ≤ 255) (v : Value) (bs : List Nat) (hv : FreeB noReg w v bs) (v2 : Value) (ns : List Nat) (hv2 : FreeB noReg w v2 ns) (v3 : Value) (fn : Nat) (fb : Nat → Bool) (hv3 : FreeT noReg w v3 fn fb) :
    Calls Try.prog 9 #[.int .u8 (n : Int), v, .int .u8 (rt : Int), v2, v3] w (RetTrue noReg w) := by
  have HA := Lib.hid (awake11_any noReg w (Inv.noReg w))
  have hnot := not_run
  have HV := Lib.hid hv
  have hS := mixL_perm (2 * (n % 12)) bs
  have hSl := mixL_length (2 * (n % 12)) bs
  have hok0 := made_ok (n % 12) rt bs 0 (by omega) (by omega)
  have HM := Lib.hid (fun R w' (hI : Inv R w') (hv : FreeB R w' v bs) => (by
    have h := rany_any R w' hI (n % 12) (by omega) v bs hv rt hr
    rw [show ((n % 12 : Nat) : Int) = (n : Int) % 12 from by omega] at h
    exact h : Calls Try.prog 25 #[.int .i64 ((n : Int) % 12), v, .int .u8 (rt : Int)] w' (RetMap R w' (mixL (2 * (n % 12)) bs) (anyRoot (n % 12) rt) 0)))
  obtain ⟨S, hSe⟩ : ∃ S, mixL (2 * (n % 12)) bs = S := ⟨_, rfl⟩
  obtain ⟨r, hre⟩ : ∃ r, anyRoot (n % 12) rt = r := ⟨_, rfl⟩
  obtain ⟨m, hm⟩ : ∃ m, 2 * (n % 12) = m := ⟨_, rfl⟩
  have hm22 : m ≤ 22 := by omega
  have hev : m % 2 = 0 := by omega
  simp only [show ((0 : Nat) : Int) = 0 from rfl] at hok0
  rw [hSe, hre] at HM hok0
  rw [hSe, hm] at hSl
  rw [hSe] at hS
  rw [← hSl] at hev hm22
  have HV2 := Lib.hid hv2
  have HV3 := Lib.hid hv3
  have hfm : fn ≤ maxLen := by obtain ⟨_, _, _, h, _⟩ := hv3; exact h
  obtain ⟨a0, c0, rfl, _⟩ := hv
  obtain ⟨a02, c02, rfl, _⟩ := hv2
  obtain ⟨a03, c03, rfl, _⟩ := hv3
  clear hSe hre hm hSl
  have HS := Lib.hid hS
  have HEv := Lib.hid hev
  have HOk := Lib.hid hok0
  clear hS hok0
  go_enter Try.func9, Try.ntmps9
  go_wp2_with fail
  refine HA.out.mono ?_
  rintro e w1 ⟨rfl, R1, he1⟩
  have HE1 := Lib.hid he1
  clear he1
  go_wp2_with fail
  refine (HM.out R1 w1 HE1.out.inv (HV.out.ev HE1.out)).mono ?_
  rintro e w2 ⟨a1, c1, rfl, he2, ho2⟩
  unfold refV
  have hnone : R1 w2.heap.size = none := he2.inv.none_of_ge (Nat.le_refl _)
  have hI3 := he2.inv.alloc (.cells #[.slice a1 S.length c1, .int .i64 r, .int .i64 0] 34)
  have hf3 := ho2.free.ev ((Ev.refl he2.inv).alloc (.cells #[.slice a1 S.length c1, .int .i64 r, .int .i64 0] 34))
  have HE2 := Lib.hid (HE1.out.trans he2)
  have HX := Lib.hid (fun R' w' (h : Ev R1 (w2.alloc (.cells #[.slice a1 S.length c1, .int .i64 r, .int .i64 0] 34)) R' w') => h.ref3 hnone)
  have HF3 := Lib.hid hf3
  have HI3 := Lib.hid hI3
  clear he2 ho2 hI3 hnone hf3
  go_upto_region 4 with fail
  obtain ⟨w3, hw3⟩ : ∃ w3, w3 = w2.alloc (.cells #[.slice a1 S.length c1, .int .i64 r, .int .i64 0] 34) := ⟨_, rfl⟩
  have HE3 : Hid (Ev noReg w R1 w3) := by rw [hw3]; exact HE2.out.alloc _
  rw [← hw3] at HX HF3 HI3 ⊢
  clear hw3 HE2
  have HOf := Lib.hid (fun R' w' (h : Ev R1 w3 R' w') => of11_any R' w' h.inv _ S r 0 (HF3.out.ev h) HS.out HOk.out)
  unfold refV at HOf
  have hev := HEv.out
  obtain ⟨fbb, hfbb⟩ : ∃ g : Nat → Bool, g = fun e => decide (e < fn) && fb e := ⟨_, rfl⟩
  have hMp := mixL_perm (S.length / 2) ns
  have hMl := mixL_length (S.length / 2) ns
  obtain ⟨M, hM⟩ : ∃ M, mixL (S.length / 2) ns = M := ⟨_, rfl⟩
  have HMx := r11mixed_any R1 w3 HI3.out _ S r 0 HF3.out HS.out HOk.out (by omega) _ ns (HV2.out.ev HE3.out) _ fn fb (HV3.out.ev HE3.out) fbb hfbb M hM
  rw [hM] at hMp hMl
  have htp := lbl_perm hMp fbb
  have htm := lbl_mates hMp fbb
  have htl : (lblL M fbb M.length).length = S.length := by rw [lblL_length, hMl]; omega
  obtain ⟨T, hT⟩ : ∃ T, lblL M fbb M.length = T := ⟨_, rfl⟩
  rw [hT] at HMx htp htm htl
  have hyp := relL_perm HS.out htp htl
  have hyl := relL_length S T
  have hyok := relRoot HOk.out htp htl
  have hpar := rel_parts HS.out hev htp htl htm
  have honce : partsN S ≤ 1 → canM (relL S T) (atI T r) = canM S r ∧ canR (relL S T) (atI T r) = canR S r ∧ ∀ d, d < S.length → atI (canPm (relL S T) (atI T r)) ((at' T d : Nat) : Int) = atI (canPm S r) (d : Int) := fun h1 => once_all HS.out hev htp htl htm h1 HOk.out
  have hlt : ∀ d, d < S.length → at' T d < S.length := fun x hx => by have := htp.lt (i := x) (by rw [htl]; exact hx); omega
  have hcc := canM_canM HS.out HOk.out
  obtain ⟨YS, hYS⟩ : ∃ x, relL S T = x := ⟨_, rfl⟩
  obtain ⟨yr, hyr⟩ : ∃ x, atI T r = x := ⟨_, rfl⟩
  rw [hYS, hyr] at hyok honce
  rw [hYS] at hyp hyl hpar
  have HMx2 : Calls Try.prog 40 #[.agg #[.slice a1 S.length c1, .int .i64 r, .int .i64 0], .slice a02 ns.length c02, .slice a03 fn c03] w3 fun e w' => ∃ a c b d, e = .returned (.tuple #[.agg #[.slice a S.length c, .int .i64 yr, .int .i64 0], .slice b S.length d]) ∧ Ev R1 w3 R1 w' ∧ FreeI R1 w' (.slice a S.length c) (toI YS) ∧ OwnI R1 w3.heap.size 3 w' (.slice b S.length d) (toI T) := by
    refine HMx.mono ?_
    rintro e w' ⟨a, c, b, d, rfl, he, h1, h2⟩
    rw [hYS] at h1
    rw [hyr]
    exact ⟨a, c, b, d, rfl, he, h1.free, h2⟩
  obtain ⟨C, hC⟩ : ∃ C, canM S r = C := ⟨_, rfl⟩
  obtain ⟨cr, hcr⟩ : ∃ x, canR S r = x := ⟨_, rfl⟩
  obtain ⟨D, hD⟩ : ∃ C, canM YS yr = C := ⟨_, rfl⟩
  obtain ⟨dr, hdr⟩ : ∃ x, canR YS yr = x := ⟨_, rfl⟩
  obtain ⟨PS, hPS⟩ : ∃ C, canPm S r = C := ⟨_, rfl⟩
  obtain ⟨PY, hPY⟩ : ∃ x, canPm YS yr = x := ⟨_, rfl⟩
  obtain ⟨PN, hPN⟩ : ∃ x, partsN S = x := ⟨_, rfl⟩
  rw [hC, hcr] at hcc
  rw [hC, hcr, hD, hdr, hPS, hPY, hPN] at honce
  rw [hPN] at hpar
  have HC := Lib.hid hC
  have HCr := Lib.hid hcr
  have HD := Lib.hid hD
  have HDr := Lib.hid hdr
  have HPS := Lib.hid hPS
  have HPY := Lib.hid hPY
  have HPN := Lib.hid hPN
  have HPar := Lib.hid hpar
  have HOnce := Lib.hid honce
  have HLt := Lib.hid hlt
  have HYp := Lib.hid hyp
  have HYl := Lib.hid hyl
  have HYok := Lib.hid hyok
  have HTl := Lib.hid htl
  have HMx3 := Lib.hid HMx2
  obtain ⟨q1, q2, q3, q4, q5⟩ := hcc
  have HQ1 := Lib.hid q1
  have HQ2 := Lib.hid q2
  clear HMx HMx2 honce hlt hyp hyl hyok hpar htl htm htp hPN hPY hPS hdr hD hcr hC hyr hYS hT hM hMp hMl hfbb q1 q2 q3 q4 q5
  obtain ⟨x0, x1, x2⟩ := HX.out _ _ (Ev.refl HI3.out)
  go_wp2_with fail
  refine HMx3.out.mono ?_
  rintro e w4 ⟨a4, c4, b4, d4, rfl, he4, hf4, ho4⟩
  have hyn : R1 w4.heap.size = none := he4.inv.none_of_ge (Nat.le_refl _)
  have HY := Lib.hid (fun R' w' (h : Ev R1 (w4.alloc (.cells #[.slice a4 S.length c4, .int .i64 yr, .int .i64 0] 34)) R' w') => h.ref3 hyn)
  have HE5 := Lib.hid (he4.alloc (.cells #[.slice a4 S.length c4, .int .i64 yr, .int .i64 0] 34))
  have HF5 := Lib.hid (hf4.ev ((Ev.refl he4.inv).alloc (.cells #[.slice a4 S.length c4, .int .i64 yr, .int .i64 0] 34)))
  have HO5 := Lib.hid (ho4.alloc (.cells #[.slice a4 S.length c4, .int .i64 yr, .int .i64 0] 34))
  have hlx : w2.heap.size < w4.heap.size := lt_of_cell (HX.out _ _ he4).1
  clear he4 hf4 ho4 hyn x0 x1 x2 HMx3
  go_upto_region 5 with fail
  obtain ⟨w5, hw5⟩ : ∃ w5, w5 = w4.alloc (.cells #[.slice a4 S.length c4, .int .i64 yr, .int .i64 0] 34) := ⟨_, rfl⟩
  obtain ⟨b5, hb5⟩ : ∃ b5, w4.heap.size = b5 := ⟨_, rfl⟩
  rw [← hw5] at HY HE5 HF5 HO5 ⊢
  rw [hb5] at HY ⊢
  clear hw5 hb5 hlx
  have HOg := Lib.hid (fun R' w' (h : Ev R1 w5 R' w') => of11_any R' w' h.inv _ YS yr 0 (HF5.out.ev h) HYp.out HYok.out)
  have HPt := Lib.hid (fun R' w' (h : Ev R1 w3 R' w') => r8parts_any R' w' h.inv _ S r 0 (HF3.out.ev h) HS.out (by omega) HEv.out (by omega))
  have HPu := Lib.hid (fun R' w' (h : Ev R1 w5 R' w') => r8parts_any R' w' h.inv _ YS yr 0 (HF5.out.ev h) HYp.out (by rw [HYl.out]; omega) (by rw [HYl.out]; exact HEv.out) (by omega))
  unfold refV at HOg HPt HPu
  simp only [HPN.out, HPar.out, Nat.add_zero] at HOg HPt HPu
  obtain ⟨x0, x1, x2⟩ := HX.out _ _ HE5.out
  obtain ⟨y0, y1, y2⟩ := HY.out _ _ (Ev.refl HE5.out.inv)
  have HZ := Lib.hid (Ev.refl HE5.out.inv)
  go_wp2_with fail
  refine (HOf.out _ _ HE5.out).mono ?_
  rintro e w6 ⟨p, R6, rfl, he, hp⟩
  have HZ := Lib.hid he
  have hc := canon_any R6 w6 he.inv p S r 0 hp
  rw [HC.out, HCr.out, HPS.out] at hc
  have HK := Lib.hid hc
  clear he hp hc x0 x1 x2 y0 y1 y2
  go_wp2_with fail
  refine (HK.out).mono ?_
  rintro e w7 ⟨a, pm, R7, rfl, he, ha, hpm⟩
  have HZ := Lib.hid (HZ.out.trans he)
  have HA7 := Lib.hid ha
  have HP7 := Lib.hid hpm
  clear he ha hpm HK
  obtain ⟨x0, x1, x2⟩ := HX.out _ _ (HE5.out.trans HZ.out)
  obtain ⟨y0, y1, y2⟩ := HY.out _ _ HZ.out
  go_wp2_with fail
  refine (HOg.out _ _ HZ.out).mono ?_
  rintro e w8 ⟨q, R8, rfl, he, hq⟩
  have HZ := Lib.hid (HZ.out.trans he)
  have hc := canon_any R8 w8 he.inv q YS yr 0 hq
  rw [HD.out, HDr.out, HPY.out] at hc
  have HK := Lib.hid hc
  have HA8 := Lib.hid (he.map HA7.out)
  have HP8 := Lib.hid (he.perm HP7.out)
  clear he hq hc x0 x1 x2 y0 y1 y2 HA7 HP7
  go_wp2_with fail
  refine (HK.out).mono ?_
  rintro e w9 ⟨b, qm, R9, rfl, he, hb, hqm⟩
  have HZ := Lib.hid (HZ.out.trans he)
  have HA9 := Lib.hid (he.map HA8.out)
  have HP9 := Lib.hid (he.perm HP8.out)
  have HB9 := Lib.hid hb
  have HQ9 := Lib.hid hqm
  have hi := cis_any R9 w9 he.inv a C cr 0 HA9.out
  rw [HQ1.out, HQ2.out, show sameB C C cr cr ((0 : Nat) : Int) ((0 : Nat) : Int) = true by simp [sameB]] at hi
  have HIs := Lib.hid hi
  clear he hb hqm HK HA8 HP8 hi
  go_wp2_with fail
  refine (HIs.out).mono ?_
  rintro e wA ⟨rfl, RA, he⟩
  have HZ := Lib.hid (HZ.out.trans he)
  have HAA := Lib.hid (he.map HA9.out)
  have HPA := Lib.hid (he.perm HP9.out)
  have HBA := Lib.hid (he.map HB9.out)
  have HQA := Lib.hid (he.perm HQ9.out)
  clear he HIs HA9 HP9 HB9 HQ9
  obtain ⟨x0, x1, x2⟩ := HX.out _ _ (HE5.out.trans HZ.out)
  obtain ⟨y0, y1, y2⟩ := HY.out _ _ HZ.out
  go_wp2_with fail
  refine (HPt.out _ _ (HE5.out.trans HZ.out)).mono ?_
  rintro e wB ⟨v8, rfl, he, a8, c8, rfl, _⟩
  have HZ := Lib.hid (HZ.out.trans he)
  have HAB := Lib.hid (he.map HAA.out)
  have HPB := Lib.hid (he.perm HPA.out)
  have HBB := Lib.hid (he.map HBA.out)
  have HQB := Lib.hid (he.perm HQA.out)
  clear he HAA HPA HBA HQA x0 x1 x2 y0 y1 y2
  have hpn := partsN_le HS.out HEv.out
  rw [HPN.out] at hpn
  obtain ⟨x0, x1, x2⟩ := HX.out _ _ (HE5.out.trans HZ.out)
  obtain ⟨y0, y1, y2⟩ := HY.out _ _ HZ.out
  by_cases hP1 : 1 < PN
  · have hgt : (1 : Int) < (PN : Int) := by omega
    go_wp2_with fail
    refine (HPu.out _ _ HZ.out).mono ?_
    rintro e wC ⟨v9, rfl, he, a9, c9, rfl, _⟩
    have HZ := Lib.hid (HZ.out.trans he)
    clear he x0 x1 x2 y0 y1 y2
    go_wp2_with fail
    go_ret
    exact ⟨by simp, _, HE3.out.trans (HE5.out.trans HZ.out)⟩
  · have hgt : ¬ (1 : Int) < (PN : Int) := by omega
    obtain ⟨h1, h2, h3⟩ := HOnce.out (by omega)
    subst h1
    subst h2
    have HAt := Lib.hid h3
    have HTl2 := HTl
    clear h3 HOnce
    have HWB := Lib.hid (Ev.refl HZ.out.inv)
    clear x0 x1 x2 y0 y1 y2
    obtain ⟨x0, x1, x2⟩ := HX.out _ _ (HE5.out.trans HZ.out)
    go_wp2_with fail
    go_loopg [72] S.length (fun g v72 wr => ∃ (k : Nat), k ≤ S.length ∧ S.length - k ≤ g ∧ v72 = .int .i64 (k : Int) ∧ Ev RA wB RA wr)
    case atStart => exact ⟨0, Nat.zero_le _, by omega, rfl, HWB.out⟩
    case round =>
      obtain ⟨k, hk, hg, rfl, hee⟩ := hrel
      have HEr := Lib.hid hee
      clear hee x0 x1 x2
      by_cases hkm : k < S.length
      · have h3 := HAt.out k hkm
        obtain ⟨z, hz⟩ : ∃ z, atI PS (k : Int) = z := ⟨_, rfl⟩
        obtain ⟨g4, rfl, _, _, k0, _⟩ := (HO5.out.ev (HZ.out.trans HEr.out)).headAt (xs := toI T) (by rw [toI_length, HTl.out]) hkm
        rw [toI_nth] at k0
        obtain ⟨tk, htk⟩ : ∃ x, at' T k = x := ⟨_, rfl⟩
        rw [htk] at h3 k0
        have K1 := Lib.hid (fun nq => at_any RA (wr.drewN nq) (HEr.out.drewN nq).inv pm PS (HEr.out.perm HPB.out) (k : Int))
        have K2 := Lib.hid (fun nq => at_any RA (wr.drewN nq) (HEr.out.drewN nq).inv qm PY (HEr.out.perm HQB.out) (tk : Int))
        simp only [h3, hz] at K1 K2
        have hzz : (z != z) = false := by simp
        clear h3 hz htk
        go_wp2_with fail
        go_quiet (first | (go_at_call 34; first | ((with_reducible refine (K1.out _).mono ?_); rintro e w' ⟨rfl, rfl⟩; exact ⟨rfl, _, rfl⟩) | ((with_reducible refine (K2.out _).mono ?_); rintro e w' ⟨rfl, rfl⟩; exact ⟨rfl, _, rfl⟩)))
        go_wp2_with fail
        go_roundg (S.length - (k + 1))
        case measure => omega
        case rel => exact ⟨k + 1, by omega, by omega, by go_num, HEr.out.drewN _⟩
      · obtain rfl : k = S.length := by omega
        obtain ⟨wC, hwC⟩ : ∃ wC, wC = wr := ⟨_, rfl⟩
        subst hwC
        have HZ2 := Lib.hid (HZ.out.trans HEr.out)
        have HAC := Lib.hid (HEr.out.map HAB.out)
        have HBC := Lib.hid (HEr.out.map HBB.out)
        have HX5 := Lib.hid (fun R' w' (h : Ev R1 w5 R' w') => HX.out _ _ (HE5.out.trans h))
        have K1 := Lib.hid (fun R' w' (h : Ev RA wC R' w') => (by
          have h := msame_any R' w' h.inv a b D D dr dr 0 0 (h.map HAC.out) (h.map HBC.out)
          rw [show sameB D D dr dr 0 0 = true by simp [sameB]] at h
          exact h : Calls Try.prog 33 #[a, b] w' (fun e w2 => e = .returned (.bool true) ∧ Ev R' w' R' w2)))
        have K2 := Lib.hid (fun R' w' (h : Ev R1 w5 R' w') => HOf.out R' w' (HE5.out.trans h))
        have K3 := HOg
        have K4 := Lib.hid (fun R' w' (hI : Inv R' w') p q (hp : MapAt R' p S r ((0 : Nat) : Int)) (hq : MapAt R' q YS yr ((0 : Nat) : Int)) => (by
          have h := iso_any R' w' hI p q S YS r yr 0 0 hp hq
          rw [HC.out, HCr.out, HD.out, HDr.out, show sameB D D dr dr ((0 : Nat) : Int) ((0 : Nat) : Int) = true by simp [sameB]] at h
          exact h : Calls Try.prog 29 #[p, q] w' (RetV R' w' (.bool true))))
        have HEd := Lib.hid ((Ev.refl HZ2.out.inv).drew)
        obtain ⟨x0, x1, x2⟩ := HX5.out _ _ (HZ2.out.trans HEd.out)
        obtain ⟨y0, y1, y2⟩ := HY.out _ _ (HZ2.out.trans HEd.out)
        have HZ3 := Lib.hid HZ2.out
        clear HAC HBC HEr HOf HOg HZ HWB
        go_wp2_with fail
        first | (go_region_held3 (fun w' => w'.cell? ⟨w2.heap.size, 0, none⟩ = some (.slice a1 S.length c1) ∧ w'.cell? ⟨w2.heap.size, 1, none⟩ = some (.int .i64 r) ∧ w'.cell? ⟨w2.heap.size, 2, none⟩ = some (.int .i64 0) ∧ w'.cell? ⟨b5, 0, none⟩ = some (.slice a4 S.length c4) ∧ w'.cell? ⟨b5, 1, none⟩ = some (.int .i64 yr) ∧ w'.cell? ⟨b5, 2, none⟩ = some (.int .i64 0)) (exact ⟨x0, x1, x2, y0, y1, y2⟩) (first | (go_at_call 33; refine (K1.out _ _ HEd.out).mono ?_; rintro z wa ⟨rfl, hea⟩; have HEd := Lib.hid (HEd.out.trans hea); clear hea; obtain ⟨x0, x1, x2⟩ := HX5.out _ _ (HZ2.out.trans HEd.out); obtain ⟨y0, y1, y2⟩ := HY.out _ _ (HZ2.out.trans HEd.out)) | (go_at_call 26; first | ((with_reducible refine (K2.out _ _ (HZ2.out.trans HEd.out)).mono ?_); rintro z wb ⟨p2, Re, rfl, hee, hp2⟩; (try (have HQ2 := Lib.hid (hee.map HQ2.out))); have HP2 := Lib.hid hp2; have HEd := Lib.hid (HEd.out.trans hee); clear hee hp2; obtain ⟨x0, x1, x2⟩ := HX5.out _ _ (HZ2.out.trans HEd.out); obtain ⟨y0, y1, y2⟩ := HY.out _ _ (HZ2.out.trans HEd.out)) | ((with_reducible refine (K3.out _ _ (HZ2.out.trans HEd.out)).mono ?_); rintro z wc ⟨q2, Rf, rfl, hee, hq2⟩; (try (have HP2 := Lib.hid (hee.map HP2.out))); have HQ2 := Lib.hid hq2; have HEd := Lib.hid (HEd.out.trans hee); clear hee hq2; obtain ⟨x0, x1, x2⟩ := HX5.out _ _ (HZ2.out.trans HEd.out); obtain ⟨y0, y1, y2⟩ := HY.out _ _ (HZ2.out.trans HEd.out))) | (go_at_call 29; refine (K4.out _ _ HEd.out.inv _ _ HP2.out HQ2.out).mono ?_; rintro z wd ⟨rfl, Rg, hef⟩; have HEd := Lib.hid (HEd.out.trans hef); clear hef; obtain ⟨x0, x1, x2⟩ := HX5.out _ _ (HZ2.out.trans HEd.out); obtain ⟨y0, y1, y2⟩ := HY.out _ _ (HZ2.out.trans HEd.out)))) | fail
        all_goals (go_wp2_with fail)
        all_goals go_ret
        all_goals exact ⟨by first | rfl | (simp; done) | (simp [Act.put]; done) | simp [go_sem], _, HE3.out.trans (HE5.out.trans (HZ2.out.trans HEd.out))⟩

end Go.Proofs.Ytlbhmonpfchocaa
