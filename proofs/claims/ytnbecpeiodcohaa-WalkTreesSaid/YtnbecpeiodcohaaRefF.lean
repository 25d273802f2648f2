/- parquetryref08.Names. Conditions: the list is a permutation of an even number that lies in memory. -/
import Derived.Test.YtnbecpeiodcohaaRowsV
import Derived.Test.YtnbecpeiodcohaaMathL
import Derived.Deep.DeepCutAuto
import Derived.Deep.QuietTactic
import Derived.BigQuiet
namespace Go.Proofs.Ytnbecpeiodcohaa
open Go.RowKit
set_option linter.unusedVariables false

theorem OwnI.madeAt {R : Reg} {w1 : World} {g n B : Nat} (hg : R g = none) (ho : w1.ownsRow B 3 1 (.slice (some ⟨g, 0, none⟩) n n) n (madeCells #[.int .i64 0] n).toList) :
    OwnI R B 3 w1 (.slice (some ⟨g, 0, none⟩) n n) (List.replicate n 0) := by
  refine ⟨?_, fun k hk => ?_⟩
  · rw [toList_madeCells_one] at ho
    simpa using ho
  · simp only [Value.ownBlock, Option.some.injEq] at hk
    rw [← hk]; exact hg

theorem OwnI.drewN {R : Reg} {B : Nat} {E : TypeId} {w : World} {v : Value} {xs : List Int} (h : OwnI R B E w v xs) (q : Nat) : OwnI R B E (w.drewN q) v xs := h

/-- labels while they are laid -/
def rangeTo (n k : Nat) : List Nat := List.range k ++ List.replicate (n - k) 0
theorem rangeTo_length {n k : Nat} (h : k ≤ n) : (rangeTo n k).length = n := by simp [rangeTo]; omega
theorem rangeTo_set {n k : Nat} (h : k < n) : (rangeTo n k).set k k = rangeTo n (k + 1) := by
  unfold rangeTo
  rw [List.set_append_right _ _ (by simp), List.length_range, Nat.sub_self, show n - k = (n - (k + 1)) + 1 by omega, List.replicate_succ, List.set_cons_zero, List.range_succ, List.append_assoc]
  rfl

/-- one round, as far as dart d has been looked at -/
def RInv (s : List Nat) (L0 L : List Nat) (ch : Bool) (d : Nat) (P : Prop) : Prop :=
  LInv s L ∧ (ch = true → sumL L + 1 ≤ sumL L0) ∧ (ch = false → L = L0 ∧ (∀ e, e < d → at' L (at' s e) = at' L e ∧ at' L (e ^^^ 1) = at' L e) ∧ P)

set_option maxRecDepth 100000 in
set_option maxHeartbeats 4000000 in
theorem r8names_any (R : Reg) (w : World) (hI : Inv R w) (v : Value) (s : List Nat) (root lone : Int) (hv : FreeI R w v (toI s)) (hS : IsPerm s) (hn : s.length ≤ 131073) (he : s.length % 2 = 0) :
    Calls Try.prog 20 #[refV v root lone] w (RetOwn R w (partsL s)) := by
  obtain ⟨a0, cap0, rfl, hv⟩ := hv.open
  rw [toI_length] at hv ⊢
  obtain ⟨n, hl⟩ : ∃ n, s.length = n := ⟨_, rfl⟩
  have HLast := Lib.hid (fun (L : List Nat) (h : LInv s L) (hc : LClosed s L) d (hd : d < s.length) => h.last hS he hc hd)
  have HCnt := Lib.hid (fun k (hk : k ≤ s.length) => (partsL_ord hS he).cnt_le hk)
  have HPL := Lib.hid (partsL_length hS he)
  have HBd := Lib.hid (fun d (hd : d < s.length) => partsL_lt hS he hd)
  have HPN := Lib.hid (partsN_le hS he)
  have HXL := Lib.hid (fun x (hx : x < n) => xor_one_lt (n := n) (by omega) hx)
  have HSL := Lib.hid (fun x (hx : x < n) => (by have := hS.lt (i := x) (by omega); omega : at' s x < n))
  have HCs := Lib.hid (fun x (hx : x < s.length) => Con.step hS hx)
  have HCm := Lib.hid (fun x (hx : x < s.length) => Con.mate hS he hx)
  have HSt := Lib.hid (LInv.start hS)
  have HL := Lib.hid hl
  rw [hl] at hn he hv ⊢
  have HI := Lib.hid hI
  have HV := Lib.hid hv
  have HS := Lib.hid hS
  have HMT := Lib.hid rmate_any
  obtain ⟨i0, hi, hz0, hz1, hz2⟩ := info_parts int_info
  clear hI hl hv hS
  unfold refV
  go_enter Try.func20, Try.ntmps20
  go_wp2_with (refine wpList_make_full _ rfl _ _ 25 rfl w.heap.size 3 i0 (.int .i64 0) 1 Try.underlying25 hi hz0 hz1 .i64 .i64 (n : Int) (n : Int) n rfl rfl rfl rfl ?q1 ?q2 (by simp) ?_)
  case q1 => rw [hz2]; omega
  case q2 => unfold maxLen; omega
  intro w1 ho1 hg1
  have he0 : Ev R w R (w.alloc (.cells #[.slice a0 n cap0, .int .i64 root, .int .i64 lone] 27)) := (Ev.refl HI.out).alloc _
  have hgn : R (w.heap.size + 1) = none := HI.out.none_of_ge (by omega)
  have hown : OwnI R (w.heap.size + 1) 3 w1 (.slice (some ⟨w.heap.size + 1, 0, none⟩) n n) (toI (rangeTo n 0)) := by
    have := OwnI.madeAt (R := R) (g := w.heap.size + 1) hgn (by simpa using ho1)
    rw [show toI (rangeTo n 0) = List.replicate n 0 by simp [toI, rangeTo]]
    refine ⟨⟨this.1.1, ?_⟩, this.2⟩
    rcases this.1.2 with h | ⟨g, cap, cur, hv, hg, r⟩
    · exact Or.inl h
    · refine Or.inr ⟨g, cap, cur, hv, ?_, r⟩
      injection hv with e
      injection e with e
      injection e with e
      omega
  obtain ⟨w0, hw0⟩ : ∃ w0, w0 = w.alloc (.cells #[.slice a0 n cap0, .int .i64 root, .int .i64 lone] 27) := ⟨_, rfl⟩
  rw [← hw0] at he0 hg1
  have hsz0 : w0.heap.size = w.heap.size + 1 := by rw [hw0]; simp
  have he1 : Ev R w0 R w1 := (Ev.refl he0.inv).grown hg1 (by simp)
  have HO1 := Lib.hid hown
  have HE0 := Lib.hid he0
  have HE1 := Lib.hid he1
  have hcell : ∀ w', Ev R w0 R w' → w'.cell? ⟨w.heap.size, 0, none⟩ = some (.slice a0 n cap0) := fun w' h => by
    rw [h.cell (by omega) (HI.out.none_of_ge (Nat.le_refl _)), hw0]
    simp
  have HCL := Lib.hid hcell
  clear ho1 hg1 hown he1 he0 hcell hw0
  go_wp2_with fail
  obtain ⟨b, hb⟩ : ∃ b, w.heap.size + 1 = b := ⟨_, rfl⟩
  rw [hb] at HO1 hgn hsz0 ⊢
  have hbw : w.heap.size < b := by omega
  have hRb := hgn
  have HSZ := Lib.hid hsz0
  clear hb hgn hsz0
  go_loopg [19] n (fun g v19 wr => ∃ k : Nat, k ≤ n ∧ n - k ≤ g ∧ v19 = .int .i64 (k : Int) ∧ Ev R w0 R wr ∧ OwnI R b 3 wr (.slice (some ⟨b, 0, none⟩) n n) (toI (rangeTo n k)))
  case atStart => exact ⟨0, Nat.zero_le _, by omega, rfl, HE1.out, HO1.out⟩
  case round =>
    obtain ⟨k, hk, hg, rfl, he1, ho⟩ := hrel
    have HLE := Lib.hid (show (toI (rangeTo n k)).length = n by rw [toI_length, rangeTo_length hk])
    have HE := Lib.hid he1
    have HO := Lib.hid ho
    clear he1 ho
    by_cases hkn : k < n
    · obtain ⟨gb, e1, _, _, hc, hz⟩ := HO.out.headAt HLE.out (i := k) hkn
      cases e1
      have hst := HO.out.put HLE.out k hkn (k : Int)
      rw [← toI_set, rangeTo_set hkn] at hst
      have HST := Lib.hid hst
      clear hst
      go_wp2_with fail
      go_roundg (n - (k + 1))
      case measure => omega
      case rel => exact ⟨k + 1, by omega, by omega, by go_num, HE.out.setCell (Nat.le_of_eq HSZ.out) hRb _, HST.out⟩
    · obtain rfl : k = n := by omega
      have hL0 : rangeTo k k = List.range k := by simp [rangeTo]
      rw [hL0] at HO HLE
      obtain ⟨wj, hwj⟩ : ∃ wj : World, wj = wr := ⟨_, rfl⟩
      subst hwj
      obtain ⟨n, hnj⟩ : ∃ n, n = k := ⟨_, rfl⟩
      subst hnj
      have HLS : Hid (LInv s (List.range n)) := Lib.hid (by rw [← HL.out]; exact HSt.out)
      clear hL0 hkn hg hk
      go_wp2_with fail
      go_loopg [5] (sumL (List.range n) + 1) (fun g v5 wr => ∃ (L : List Nat) (ch : Bool), v5 = .bool ch ∧ Ev R w0 R wr ∧ OwnI R b 3 wr (.slice (some ⟨b, 0, none⟩) n n) (toI L) ∧ LInv s L ∧ (ch = true → sumL L + 1 ≤ g) ∧ (ch = false → LClosed s L))
      case atStart => exact ⟨_, true, rfl, HE.out, HO.out, HLS.out, fun _ => Nat.le_refl _, fun h => by cases h⟩
      case round =>
        obtain ⟨L0, ch, rfl, he1, ho, hli, hch1, hch2⟩ := hrel
        cases ch with
        | true =>
          have hg1 := hch1 rfl
          have HLI := Lib.hid hli
          have HEa := Lib.hid he1
          have HOa := Lib.hid ho
          clear he1 ho hli hch1 hch2
          obtain ⟨g1, rfl⟩ : ∃ g1, gk = g1 + 1 := ⟨gk - 1, by omega⟩
          go_wp2_with fail
          go_loopg [5, 30] n (fun g v5 v30 wr => ∃ (L : List Nat) (ch : Bool) (d : Nat), d ≤ n ∧ n - d ≤ g ∧ v5 = .bool ch ∧ v30 = .int .i64 (d : Int) ∧ Ev R w0 R wr ∧ OwnI R b 3 wr (.slice (some ⟨b, 0, none⟩) n n) (toI L) ∧ RInv s L0 L ch d True)
          case atStart => exact ⟨L0, false, 0, Nat.zero_le _, by omega, rfl, rfl, HEa.out, HOa.out, HLI.out, fun h => (by cases h), fun _ => ⟨rfl, fun e he => absurd he (Nat.not_lt_zero _), trivial⟩⟩
          case round =>
            obtain ⟨L, ch, d, hd, hg2, rfl, rfl, he1, ho, hri⟩ := hrel
            have HEb := Lib.hid he1
            have HOb := Lib.hid ho
            have HRI := Lib.hid hri
            clear he1 ho hri
            by_cases hdn : d < n
            · go_wp2_with fail
              have c0 := HCL.out wr HEb.out
              obtain ⟨bs, os, e1, hcs⟩ := (HV.out.ev (HE0.out.trans HEb.out)).at (i := d) (by rw [HL.out]; exact hdn)
              subst e1
              have HMd := Lib.hid (HMT.out wr.drew d (by omega))
              have hy1 := HSL.out d hdn
              have hy2 := HXL.out d hdn
              have HC1 := Lib.hid (HCs.out d (by rw [HL.out]; exact hdn))
              have HC2 := Lib.hid (HCm.out d (by rw [HL.out]; exact hdn))
              obtain ⟨y1, hy1e⟩ : ∃ y, at' s d = y := ⟨_, rfl⟩
              obtain ⟨y2, hy2e⟩ : ∃ y, d ^^^ 1 = y := ⟨_, rfl⟩
              rw [hy1e] at hy1 hcs HC1
              rw [hy2e] at hy2 HMd HC2
              have HY1 := Lib.hid hy1e
              have HY2 := Lib.hid hy2e
              have hltb : b < wr.heap.size := by have := HOb.out.lt b rfl; exact this.2
              clear hy1e hy2e
              go_cut [40, 41, 42] (fun s40 s41 s42 wx => ∃ g : Nat, b < g ∧ s40 = .slice (some ⟨g, 0, none⟩) 2 2 ∧ s41 = .int .i64 2 ∧ s42 = .int .i64 0 ∧ Ev R w0 R wx ∧ OwnI R b 3 wx (.slice (some ⟨b, 0, none⟩) n n) (toI L) ∧ R g = none ∧ wx.cell? ⟨g, 0, none⟩ = some (.int .i64 (y1 : Int)) ∧ wx.cell? ⟨g, 1, none⟩ = some (.int .i64 (y2 : Int)))
              case first =>
                go_region_with (go_at_call 80; refine HMd.out.mono ?_; rintro e w' ⟨rfl, rfl⟩)
                all_goals (go_wp2_with fail; go_meet)
                all_goals exact ⟨wr.heap.size, hltb, rfl, rfl, rfl, (HEb.out.alloc _).drew, (HOb.out.alloc _).drew, HEb.out.inv.none_of_ge (Nat.le_refl _), by simp, by simp⟩
              case rest =>
                obtain ⟨gq, hgq, rfl, rfl, rfl, he, ho, hgn, hc1, hc2⟩ := hcut
                have HEc := Lib.hid he
                have HOc := Lib.hid ho
                obtain ⟨ys, hys⟩ : ∃ ys : Nat → Nat, (ys 0 = y1 ∧ ys 1 = y2) := ⟨fun i => if i = 0 then y1 else y2, by simp, by simp⟩
                have hcg : ∀ i, i < 2 → wc.cell? ⟨gq, i, none⟩ = some (.int .i64 ((ys i : Nat) : Int)) := fun i hi => by
                  rcases (show i = 0 ∨ i = 1 by omega) with rfl | rfl
                  · rw [hys.1]; exact hc1
                  · rw [hys.2]; exact hc2
                have hyl : ∀ i, i < 2 → ys i < n ∧ Con s (ys i) d := fun i hi => by
                  have hp := Con.per HS.out
                  rcases (show i = 0 ∨ i = 1 by omega) with rfl | rfl
                  · rw [hys.1]; exact ⟨hy1, hp.symm HC1.out⟩
                  · rw [hys.2]; exact ⟨hy2, hp.symm HC2.out⟩
                have HYS := Lib.hid hys
                have HCG := Lib.hid hcg
                have HYL := Lib.hid hyl
                clear he ho hys hcg hyl hc1 hc2 c0 hcs
                go_wp2_with fail
                go_loopg [5, 42] 2 (fun g v5 v42 wr => ∃ (L' : List Nat) (ch' : Bool) (i : Nat), i ≤ 2 ∧ 2 - i ≤ g ∧ v5 = .bool ch' ∧ v42 = .int .i64 (i : Int) ∧ Ev R w0 R wr ∧ OwnI R b 3 wr (.slice (some ⟨b, 0, none⟩) n n) (toI L') ∧ (∀ i, i < 2 → wr.cell? ⟨gq, i, none⟩ = some (.int .i64 ((ys i : Nat) : Int))) ∧ RInv s L0 L' ch' d (∀ k, k < i → at' L' (ys k) = at' L' d))
                case atStart =>
                  obtain ⟨r1, r2, r3⟩ := HRI.out
                  exact ⟨L, ch, 0, by omega, by omega, rfl, rfl, HEc.out, HOc.out, HCG.out, r1, r2, fun h => ⟨(r3 h).1, (r3 h).2.1, fun k hk => absurd hk (Nat.not_lt_zero _)⟩⟩
                case round =>
                  obtain ⟨L', ch', i, hi, hg3, rfl, rfl, he, ho, hcg, hri⟩ := hrel
                  have HEd := Lib.hid he
                  have HOd := Lib.hid ho
                  have HRd := Lib.hid hri
                  have HCd := Lib.hid hcg
                  clear he ho hri hcg
                  by_cases hi2 : i < 2
                  · have hcx := HCd.out i hi2
                    obtain ⟨hyl, hycon⟩ := HYL.out i hi2
                    obtain ⟨x, hx⟩ : ∃ x, ys i = x := ⟨_, rfl⟩
                    rw [hx] at hcx hyl hycon
                    have HX := Lib.hid hx
                    have HLn : Hid ((toI L').length = n) := Lib.hid (by rw [toI_length, HRd.out.1.len, HL.out])
                    obtain ⟨_, e1, _, _, hcA, hzA⟩ := HOd.out.headAt HLn.out (i := x) hyl
                    cases e1
                    obtain ⟨_, e1, _, _, hcB, hzB⟩ := HOd.out.headAt HLn.out (i := d) hdn
                    cases e1
                    rw [toI_nth] at hcA hcB
                    obtain ⟨lx, hlx⟩ : ∃ l, at' L' x = l := ⟨_, rfl⟩
                    obtain ⟨ld, hld⟩ : ∃ l, at' L' d = l := ⟨_, rfl⟩
                    rw [hlx] at hcA
                    rw [hld] at hcB
                    have HLX := Lib.hid hlx
                    have HLD := Lib.hid hld
                    have HYC := Lib.hid hycon
                    clear hx hlx hld hycon
                    rcases Nat.lt_trichotomy lx ld with hcmp | hcmp | hcmp
                    · have hxd : x ≠ d := fun e => by subst e; have := HLX.out; have := HLD.out; omega
                      have hdx : d ≠ x := fun e => hxd e.symm
                      have hnb : b ≠ gq := by omega
                      have HSK := Lib.hid (LInv.sink HS.out HRd.out.1 (d := d) (x := x) (by rw [HL.out]; exact hdn) (by rw [HL.out]; exact hyl) HYC.out (by rw [HLX.out, HLD.out]; exact hcmp))
                      rw [HLX.out] at HSK
                      go_wp2_with fail
                      go_quiet (fail)
                      go_wp2_with fail
                      go_quiet (fail)
                      go_wp2_with fail
                      go_roundg (2 - (i + 1))
                      case measure => omega
                      case rel =>
                        have hse := fun q q' => ((HEd.out.drewN q).setCell (p := ⟨b, d, none⟩) (Nat.le_of_eq HSZ.out) hRb (.int .i64 (lx : Int))).drewN q'
                        have hst := fun q q' => ((HOd.out.drewN q).put HLn.out d hdn (lx : Int)).drewN q'
                        rw [← toI_set] at hst
                        refine ⟨L'.set d lx, true, i + 1, by omega, by omega, rfl, by go_num, hse _ _, hst _ _, fun j hj => ?_, HSK.out.1, fun _ => ?_, fun h => by cases h⟩
                        · have := HCd.out j hj
                          simpa [World.cell?_setCell_other, hnb] using this
                        · have h1 := HSK.out.2
                          cases ch' with
                          | true => have := HRd.out.2.1 rfl; omega
                          | false => rw [(HRd.out.2.2 rfl).1] at h1 ⊢; exact h1
                    · subst hcmp
                      go_wp2_with fail
                      go_quiet (fail)
                      go_wp2_with fail
                      go_quiet (fail)
                      go_wp2_with fail
                      go_roundg (2 - (i + 1))
                      case measure => omega
                      case rel =>
                        obtain ⟨r1, r2, r3⟩ := HRd.out
                        refine ⟨L', ch', i + 1, by omega, by omega, rfl, by go_num, HEd.out.drewN _, HOd.out.drewN _, HCd.out, r1, r2, fun h => ⟨(r3 h).1, (r3 h).2.1, fun k hk => ?_⟩⟩
                        by_cases e : k = i
                        · subst e; rw [HX.out, HLX.out, HLD.out]
                        · exact (r3 h).2.2 k (by omega)
                    · have hxd : x ≠ d := fun e => by subst e; have := HLX.out; have := HLD.out; omega
                      have hdx : d ≠ x := fun e => hxd e.symm
                      have hnb : b ≠ gq := by omega
                      have HSK := Lib.hid (LInv.sink HS.out HRd.out.1 (d := x) (x := d) (by rw [HL.out]; exact hyl) (by rw [HL.out]; exact hdn) ((Con.per HS.out).symm HYC.out) (by rw [HLX.out, HLD.out]; exact hcmp))
                      rw [HLD.out] at HSK
                      go_wp2_with fail
                      go_quiet (fail)
                      go_wp2_with fail
                      go_quiet (fail)
                      go_wp2_with fail
                      go_roundg (2 - (i + 1))
                      case measure => omega
                      case rel =>
                        have hse := fun q => ((HEd.out.drewN q).setCell (p := ⟨b, x, none⟩) (Nat.le_of_eq HSZ.out) hRb (.int .i64 (ld : Int)))
                        have hst := fun q => ((HOd.out.drewN q).put HLn.out x hyl (ld : Int))
                        rw [← toI_set] at hst
                        refine ⟨L'.set x ld, true, i + 1, by omega, by omega, rfl, by go_num, hse _, hst _, fun j hj => ?_, HSK.out.1, fun _ => ?_, fun h => by cases h⟩
                        · have := HCd.out j hj
                          simpa [World.cell?_setCell_other, hnb] using this
                        · have h1 := HSK.out.2
                          cases ch' with
                          | true => have := HRd.out.2.1 rfl; omega
                          | false => rw [(HRd.out.2.2 rfl).1] at h1 ⊢; exact h1
                  · obtain rfl : i = 2 := by omega
                    go_wp2_with fail
                    go_roundg (n - (d + 1))
                    case measure => omega
                    case rel =>
                      obtain ⟨r1, r2, r3⟩ := HRd.out
                      refine ⟨L', ch', d + 1, by omega, by omega, rfl, by go_num, HEd.out, HOd.out, r1, r2, fun h => ⟨(r3 h).1, fun e he => ?_, trivial⟩⟩
                      by_cases e' : e = d
                      · subst e'
                        have h0 := (r3 h).2.2 0 (by omega)
                        have h1 := (r3 h).2.2 1 (by omega)
                        rw [HYS.out.1] at h0
                        rw [HYS.out.2] at h1
                        rw [HY1.out, HY2.out]
                        exact ⟨h0, h1⟩
                      · exact (r3 h).2.1 e (by omega)
            · obtain rfl : d = n := by omega
              go_wp2_with fail
              go_roundg g1
              case measure => omega
              case rel =>
                obtain ⟨r1, r2, r3⟩ := HRI.out
                refine ⟨L, ch, rfl, HEb.out, HOb.out, r1, fun h => by have := r2 h; omega, fun h e he => ?_⟩
                rw [HL.out] at he
                exact (r3 h).2.1 e he
        | false =>
          have HLI := Lib.hid hli
          have HCl := Lib.hid (hch2 rfl)
          have HEa := Lib.hid he1
          have HOa := Lib.hid ho
          clear he1 ho hli hch1 hch2
          have HLn : Hid ((toI L0).length = n) := Lib.hid (by rw [toI_length, HLI.out.len, HL.out])
          go_wp2_with (refine wpList_make_full _ rfl _ _ 25 rfl wr.heap.size 3 i0 (.int .i64 0) 1 Try.underlying25 hi hz0 hz1 .i64 .i64 (n : Int) (n : Int) n rfl rfl rfl rfl ?q5 ?q6 (Nat.le_refl _) ?_)
          case q5 => rw [hz2]; omega
          case q6 => unfold maxLen; omega
          intro w2 ho2 hg2
          have hown := OwnI.madeAt (R := R) (HEa.out.inv.none_of_ge (Nat.le_refl _)) ho2
          have HE2 := Lib.hid (HEa.out.grown hg2 (by simp))
          have HOn := Lib.hid (HOa.out.kept hg2 (Or.inr (by simp [Value.ownBlock])))
          have hltb : b < wr.heap.size := (HOa.out.lt b rfl).2
          have hRc : R wr.heap.size = none := HEa.out.inv.none_of_ge (Nat.le_refl _)
          obtain ⟨c, hcw⟩ : ∃ c, wr.heap.size = c := ⟨_, rfl⟩
          rw [hcw] at hown hltb hRc ⊢
          have HOw := Lib.hid hown
          clear hown ho2 hg2 hcw
          go_wp2_with fail
          go_loopg [10, 85] n (fun g v10 v85 wr => ∃ (k : Nat) (O : List Int), k ≤ n ∧ n - k ≤ g ∧ v10 = .int .i64 (((partsGo s k).2 : Nat) : Int) ∧ v85 = .int .i64 (k : Int) ∧ Ev R w0 R wr ∧ OwnI R b 3 wr (.slice (some ⟨b, 0, none⟩) n n) (toI L0) ∧ OwnI R c 3 wr (.slice (some ⟨c, 0, none⟩) n n) O ∧ O.length = n ∧ ∀ j, j < k → nth O j = nth (partsL s) j)
          case atStart => exact ⟨0, _, by omega, by omega, rfl, rfl, HE2.out, HOn.out, HOw.out, by simp, fun j hj => absurd hj (Nat.not_lt_zero _)⟩
          case round =>
            obtain ⟨k, O, hk, hg, rfl, rfl, he, hol, hoo, hlo, hall⟩ := hrel
            have HEb := Lib.hid he
            have HOl := Lib.hid hol
            have HOo := Lib.hid hoo
            have HLo := Lib.hid hlo
            have HAl := Lib.hid hall
            clear he hol hoo hlo hall
            have hcb := HCnt.out k (by rw [HL.out]; exact hk)
            have hcb : (partsGo s k).2 ≤ k := hcb
            obtain ⟨q, hq⟩ : ∃ q, (partsGo s k).2 = q := ⟨_, rfl⟩
            rw [hq] at hcb ⊢
            have HQ := Lib.hid hq
            clear hq
            by_cases hkn : k < n
            · obtain ⟨_, e1, _, _, hcA, _⟩ := HOl.out.headAt HLn.out (i := k) hkn
              cases e1
              rw [toI_nth] at hcA
              obtain ⟨_, e1, _, _, hcB, hzB⟩ := HOo.out.headAt HLo.out (i := k) hkn
              cases e1
              have hbc : b ≠ c := by omega
              rcases HLast.out L0 HLI.out HCl.out k (by rw [HL.out]; exact hkn) with ⟨e1, e2, e3⟩ | ⟨e1, e2, e3⟩
              · rw [e1] at hcA
                have hst := HOo.out.put HLo.out k hkn (q : Int)
                have HSE := Lib.hid (HEb.out.setCell (p := ⟨c, k, none⟩) (show w0.heap.size ≤ c by have := HSZ.out; omega) hRc (.int .i64 (q : Int)))
                have HSL' := Lib.hid (HOl.out.setCell (a := ⟨c, k, none⟩) (fun e => hbc (by cases e; rfl)) (.int .i64 (q : Int)))
                have HST := Lib.hid hst
                have H2 := Lib.hid e2
                have H3 := Lib.hid e3
                have heq : ((k : Int) == (k : Int)) = true := by simp
                clear hst e1 e2 e3
                go_wp2_with fail
                go_roundg (n - (k + 1))
                case measure => omega
                case rel =>
                  refine ⟨k + 1, O.set k (q : Int), by omega, by omega, by rw [H3.out, HQ.out]; go_num, by go_num, HSE.out, HSL'.out, HST.out, by rw [List.length_set]; exact HLo.out, fun j hj => ?_⟩
                  rw [nth_set (by rw [HLo.out]; exact hkn)]
                  by_cases e : k = j
                  · subst e; rw [if_pos rfl, H2.out, HQ.out]
                  · rw [if_neg e]; exact HAl.out j (by omega)
              · obtain ⟨l, hl⟩ : ∃ l, at' L0 k = l := ⟨_, rfl⟩
                rw [hl] at hcA e1 e2
                obtain ⟨_, e4, _, _, hcC, _⟩ := HOo.out.headAt HLo.out (i := l) (by omega)
                cases e4
                rw [HAl.out l e1] at hcC
                have hst := HOo.out.put HLo.out k hkn (nth (partsL s) l)
                have HSE := Lib.hid (HEb.out.setCell (p := ⟨c, k, none⟩) (show w0.heap.size ≤ c by have := HSZ.out; omega) hRc (.int .i64 (nth (partsL s) l)))
                have HSL' := Lib.hid (HOl.out.setCell (a := ⟨c, k, none⟩) (fun e => hbc (by cases e; rfl)) (.int .i64 (nth (partsL s) l)))
                have HST := Lib.hid hst
                have H2 := Lib.hid e2
                have H3 := Lib.hid e3
                have heq : ((l : Int) == (k : Int)) = false := by rw [beq_eq_false_iff_ne]; omega
                clear hst e2 e3 hl
                go_wp2_with fail
                go_roundg (n - (k + 1))
                case measure => omega
                case rel =>
                  refine ⟨k + 1, O.set k (nth (partsL s) l), by omega, by omega, by rw [H3.out, HQ.out], by go_num, HSE.out, HSL'.out, HST.out, by rw [List.length_set]; exact HLo.out, fun j hj => ?_⟩
                  rw [nth_set (by rw [HLo.out]; exact hkn)]
                  by_cases e : k = j
                  · subst e; rw [if_pos rfl, H2.out]
                  · rw [if_neg e]; exact HAl.out j (by omega)
            · obtain rfl : k = n := by omega
              go_wp2_with fail
              go_ret
              refine ⟨_, rfl, HE0.out.trans HEb.out, ?_⟩
              have : O = partsL s := ext_nth (by rw [HLo.out, HPL.out, HL.out]) fun j hj => HAl.out j (by rw [← HLo.out]; exact hj)
              rw [← this]
              exact HOo.out.mono (by omega)

end Go.Proofs.Ytnbecpeiodcohaa
