/- parquetryref08.of, Parts. Conditions: the lists lie in memory. euler.Genus, Planar, Connected, Loops; the document's Genus, Loops. Conditions: the map is registered, or its list lies in memory. walk.seen.kind: what is looked at. Conditions: the map is registered. Rows of steps (two integers each) in memory. Conditions: none. -/
import Derived.Test.YtlbhmonpfchocaaZCanonIso16
import Derived.Test.YtlbhmonpfchocaaZCanonIso15
import Derived.Test.YtlbhmonpfchocaaZCanonIso17
namespace Go.Proofs.Ytlbhmonpfchocaa
open Go.RowKit
set_option linter.unusedVariables false

def allGe (xs : List Nat) (d i : Nat) : Bool := (xs.take i).all fun x => decide (d ≤ x)
theorem allGe_succ {xs : List Nat} {d i : Nat} (hi : i < xs.length) : allGe xs d (i + 1) = (allGe xs d i && decide (d ≤ at' xs i)) := by
  unfold allGe
  rw [List.take_succ_eq_append_getElem hi, List.all_append, at'_eq hi]
  simp
theorem allGe_all {t : List Nat} (ht : IsPerm t) {d : Nat} (hd : d < t.length) : allGe (orbitL t d) d (orbitL t d).length = leadB t d := by
  rw [Bool.eq_iff_iff, leadB_iff ht hd]
  unfold allGe
  rw [List.take_length, List.all_eq_true]
  constructor
  · intro h y hy hc
    have hc' : cyc t.length (at' t) d y := ht.pm.per.symm hc
    obtain ⟨_, _, j, e⟩ := hc'
    have hm : y ∈ orbitL t d := (ht.mem_orbit hd).2 ⟨j, by rw [← itf_at]; exact e⟩
    have := h y hm
    simp at this
    omega
  · intro h x hx
    have hxl := orbitL_lt ht hd x hx
    obtain ⟨j, e⟩ := (ht.mem_orbit hd).1 hx
    simp only [decide_eq_true_eq]
    rcases Nat.lt_or_ge x d with hlt | hge
    · exact absurd (ht.pm.per.symm ⟨hd, hxl, j, by rw [itf_at]; exact e⟩) (h x hlt)
    · exact hge

set_option maxRecDepth 100000 in
set_option maxHeartbeats 2000000 in
theorem rof_any (R : Reg) (w : World) (hI : Inv R w) (v u : Value) (t : List Nat) (N : List Int) (hv : FreeI R w v (toI t)) (hu : FreeI R w u N) (ht : IsPerm t) (hn : t.length ≤ 131073) (hN : N.length = t.length) (k : Int) :
    Calls Try.prog 73 #[v, u, .int .i64 k] w (RetE R w (.int .i64 ((vcnt t N k t.length : Nat) : Int))) := by
  obtain ⟨a0, cap0, rfl, hv⟩ := hv.open
  obtain ⟨a1, cap1, rfl, hu⟩ := hu.open
  rw [toI_length] at hv ⊢
  rw [hN] at hu ⊢
  obtain ⟨n, hl⟩ : ∃ n, t.length = n := ⟨_, rfl⟩
  have HOrb := Lib.hid (fun w' (he : Ev R w R w') d (hd : d < t.length) => rorbit_any R w' he.inv _ t (hv.ev he) ht (by omega) d hd)
  have HLd := Lib.hid (fun d (hd : d < t.length) => allGe_all ht hd)
  have HOl := Lib.hid (fun d => orbitL_length t d)
  have HL := Lib.hid hl
  have HNl := Lib.hid hN
  rw [hl] at hn hu HOrb ⊢
  have HU := Lib.hid hu
  have HI := Lib.hid hI
  clear hI hl hv hu ht hN
  go_enter Try.func73, Try.ntmps73
  go_wp2_with fail
  go_loopg [7, 14] n (fun g v7 v14 wr => ∃ d : Nat, d ≤ n ∧ n - d ≤ g ∧ v7 = .int .i64 ((vcnt t N k d : Nat) : Int) ∧ v14 = .int .i64 (d : Int) ∧ Ev R w R wr)
  case atStart => exact ⟨0, by omega, by omega, rfl, rfl, Ev.refl HI.out⟩
  case round =>
    obtain ⟨d, hd, hg, rfl, rfl, he⟩ := hrel
    have HE := Lib.hid he
    clear he
    have hvb := vcnt_le t N k d
    obtain ⟨c, hc⟩ : ∃ c, vcnt t N k d = c := ⟨_, rfl⟩
    rw [hc] at hvb ⊢
    have HC := Lib.hid hc
    clear hc
    by_cases hdn : d < n
    · have HO := Lib.hid (HOrb.out wr HE.out d hdn)
      go_wp2_with fail
      refine HO.out.mono ?_
      rintro e w1 ⟨vo, rfl, he1, ho1⟩
      obtain ⟨ao, co, rfl, hof⟩ := ho1.free.open
      have hol := HOl.out d
      obtain ⟨L, hL⟩ : ∃ L, orbitL t d = L := ⟨_, rfl⟩
      rw [hL] at hof hol ⊢
      rw [toI_length] at hof ⊢
      obtain ⟨m, hm⟩ : ∃ m, L.length = m := ⟨_, rfl⟩
      rw [hm] at hof hol ⊢
      rw [HL.out] at hol
      have HE1 := Lib.hid (HE.out.trans he1)
      have HF1 := Lib.hid hof
      have HLL := Lib.hid hL
      have HMm := Lib.hid hm
      clear he1 hof ho1 hL hm
      go_wp2_with fail
      go_loopg [9, 21] m (fun g v9 v21 wr => ∃ (i : Nat) (b : Bool), i ≤ m ∧ m - i ≤ g ∧ v9 = .bool b ∧ b = allGe L d i ∧ v21 = .int .i64 (i : Int) ∧ wr = w1)
      case atStart => exact ⟨0, true, by omega, by omega, rfl, rfl, rfl, rfl⟩
      case round =>
        obtain ⟨i, b, hi, hg2, rfl, hb, rfl, rfl⟩ := hrel
        have HB := Lib.hid hb
        clear hb
        by_cases him : i < m
        · obtain ⟨bb, oo, e1, hcx⟩ := HF1.out.at (i := i) (by rw [HMm.out]; exact him)
          cases e1
          obtain ⟨x, hx⟩ : ∃ x, at' L i = x := ⟨_, rfl⟩
          rw [hx] at hcx
          have HX := Lib.hid hx
          clear hx
          cases b with
          | false =>
            go_wp2_with fail
            go_roundg (m - (i + 1))
            case measure => omega
            case rel => exact ⟨i + 1, false, by omega, by omega, rfl, by rw [allGe_succ (by rw [HMm.out]; exact him), ← HB.out]; rfl, by go_num, rfl⟩
          | true =>
            by_cases hxd : d ≤ x
            · go_wp2_with fail
              go_roundg (m - (i + 1))
              case measure => omega
              case rel => exact ⟨i + 1, true, by omega, by omega, by simp, by rw [allGe_succ (by rw [HMm.out]; exact him), ← HB.out, HX.out]; simp [hxd], by go_num, rfl⟩
            · go_wp2_with fail
              go_roundg (m - (i + 1))
              case measure => omega
              case rel => exact ⟨i + 1, false, by omega, by omega, by simp, by rw [allGe_succ (by rw [HMm.out]; exact him), ← HB.out, HX.out]; simp [hxd], by go_num, rfl⟩
        · obtain rfl : i = m := by omega
          have hb2 : b = leadB t d := by
            rw [HB.out, ← HLd.out d (by rw [HL.out]; exact hdn), HLL.out, HMm.out]
          have HB2 := Lib.hid hb2
          obtain ⟨bb, oo, e1, hcx⟩ := (HU.out.ev HE1.out).1.cell (i := d) (by rw [HNl.out, HL.out]; exact hdn)
          cases e1
          obtain ⟨x, hx⟩ : ∃ x, nth N d = x := ⟨_, rfl⟩
          rw [hx] at hcx
          have HX := Lib.hid hx
          clear hb2 hx him hi hg2
          cases b with
          | false =>
            go_wp2_with fail
            go_roundg (n - (d + 1))
            case measure => omega
            case rel => exact ⟨d + 1, by omega, by omega, by rw [vcnt_succ, if_neg (fun h => by rw [← HB2.out] at h; cases h.2), HC.out]; rfl, by go_num, HE1.out⟩
          | true =>
            by_cases hxk : x = k
            · subst hxk
              have heq : (x == x) = true := by simp
              go_wp2_with fail
              go_roundg (n - (d + 1))
              case measure => omega
              case rel => exact ⟨d + 1, by omega, by omega, by rw [vcnt_succ, if_pos ⟨HX.out, HB2.out.symm⟩, HC.out]; go_num, by go_num, HE1.out⟩
            · have heq : (x == k) = false := by rw [beq_eq_false_iff_ne]; exact hxk
              go_wp2_with fail
              go_roundg (n - (d + 1))
              case measure => omega
              case rel => exact ⟨d + 1, by omega, by omega, by rw [vcnt_succ, if_neg (fun h => hxk (by rw [← h.1, HX.out])), HC.out]; rfl, by go_num, HE1.out⟩
    · obtain rfl : d = n := by omega
      go_wp2_with fail
      go_ret
      exact ⟨ret_int (by rw [← HC.out]), HE.out⟩

/-- one's own row of the document's parts -/
def OwnRs (R : Reg) (B : Nat) (w : World) (v : Value) (C : Nat) (f : Nat → PartR) : Prop :=
  ∃ a cap, v = .slice a C cap ∧ OwnV R B 107 5 w (.slice a C cap) C (flatF f C)
def RetRefs (R : Reg) (w : World) (C : Nat) (f : Nat → PartR) (e : Ending) (w' : World) : Prop := ∃ v, e = .returned v ∧ Ev R w R w' ∧ OwnRs R w.heap.size w' v C f

theorem rpart_info : (Try.prog.info? 107).map (fun i => (i.zero, i.size, i.bytes)) = some (some (.agg #[.int .i64 0, .int .i64 0, .int .i64 0, .int .i64 0, .int .i64 0]), 5, 40) := by kernel_rfl

theorem edges_half {s : List Nat} (hs : IsPerm s) (he : s.length % 2 = 0) (k : Int) : dcnt (partsL s) k s.length = 2 * ecnt (partsL s) k s.length := by
  have h := edges_tally (s := s) (N := partsL s) k (fun x hx => partsL_mate hs he hx) (e := s.length / 2) (by omega)
  rw [show 2 * (s.length / 2) = s.length by omega] at h
  omega

set_option maxRecDepth 100000 in
set_option maxHeartbeats 4000000 in
theorem r8parts_any (R : Reg) (w : World) (hI : Inv R w) (v : Value) (s : List Nat) (root : Int) (lone : Nat) (hv : FreeI R w v (toI s)) (hS : IsPerm s) (hn : s.length ≤ 131073) (he : s.length % 2 = 0) (hlone : lone ≤ 65536) :
    Calls Try.prog 28 #[refV v root lone] w (RetRefs R w (partsN s + lone) (partsF s)) := by
  obtain ⟨a0, cap0, rfl, hv⟩ := hv.open
  rw [toI_length] at hv ⊢
  obtain ⟨n, hl⟩ : ∃ n, s.length = n := ⟨_, rfl⟩
  have HNm := Lib.hid (fun w' (he' : Ev R w R w') => r8names_any R w' he'.inv _ s root lone (hv.ev he') hS hn he)
  have HPh := Lib.hid (fun w' (he' : Ev R w R w') => rphi_any R w' he'.inv _ s root lone (hv.ev he') (by omega) he)
  have HO1 := Lib.hid (fun w' (he' : Ev R w R w') u (hu : FreeI R w' u (partsL s)) k => rof_any R w' he'.inv _ u s (partsL s) (hv.ev he') hu hS hn (partsL_length hS he) k)
  have HO2 := Lib.hid (fun w' (he' : Ev R w R w') v u (hv : FreeI R w' v (toI (phiL s))) (hu : FreeI R w' u (partsL s)) k => rof_any R w' he'.inv v u (phiL s) (partsL s) hv hu (phiL_perm hS he) (by rw [phiL_length]; exact hn) (by rw [phiL_length]; exact partsL_length hS he) k)
  have HOrd := Lib.hid (partsL_ord hS he)
  have HGen := Lib.hid (fun k (hk : k < partsN s) => genOf_euler hS he hk)
  have HHalf := Lib.hid (fun k => edges_half hS he k)
  have HL := Lib.hid hl
  rw [hl] at HNm HPh HO1 HOrd hn hv ⊢
  have HV := Lib.hid hv
  have HI := Lib.hid hI
  clear hI hl hv hS he
  have HPN : Hid ((partsGo s n).2 = partsN s) := Lib.hid (by unfold partsN; rw [HL.out])
  obtain ⟨cnt, hcnt⟩ : ∃ c : Nat → Nat, (fun k => (partsGo s k).2) = c := ⟨_, rfl⟩
  rw [hcnt] at HOrd
  have HCN : Hid (cnt n = partsN s) := Lib.hid (by rw [← hcnt]; exact HPN.out)
  clear HPN hcnt
  have he0 : Ev R w R (w.alloc (.cells #[.slice a0 n cap0, .int .i64 root, .int .i64 lone] 34)) := (Ev.refl HI.out).alloc _
  obtain ⟨w0, hw0⟩ : ∃ w0, w0 = w.alloc (.cells #[.slice a0 n cap0, .int .i64 root, .int .i64 lone] 34) := ⟨_, rfl⟩
  have hsz0 : w0.heap.size = w.heap.size + 1 := by rw [hw0]; simp
  have hcells : ∀ w', Ev R w0 R w' → w'.cell? ⟨w.heap.size, 0, none⟩ = some (.slice a0 n cap0) ∧ w'.cell? ⟨w.heap.size, 1, none⟩ = some (.int .i64 root) ∧ w'.cell? ⟨w.heap.size, 2, none⟩ = some (.int .i64 lone) := fun w' h => by
    refine ⟨?_, ?_, ?_⟩ <;> (rw [h.cell (by omega) (HI.out.none_of_ge (Nat.le_refl _)), hw0]; simp)
  have HCL := Lib.hid hcells
  clear hcells
  unfold refV at HNm HPh ⊢
  go_enter Try.func28, Try.ntmps28
  rw [← hw0] at he0
  have HE0 := Lib.hid he0
  obtain ⟨x0, x1, x2⟩ := HCL.out w0 (Ev.refl he0.inv)
  go_wp2_with fail
  rw [← hw0]
  refine (HNm.out w0 HE0.out).mono ?_
  rintro e w1 ⟨vN, rfl, he1, ho1⟩
  obtain ⟨aN, cN, rfl, hf1⟩ := ho1.free.open
  rw [HOrd.out.len] at hf1 ⊢
  have he1' := HE0.out.trans he1
  obtain ⟨x0, x1, x2⟩ := HCL.out w1 he1
  have HE1 := Lib.hid he1'
  have HEa := Lib.hid he1
  have HF1 := Lib.hid hf1
  clear he1 ho1 hf1 he1' he0 hw0
  go_wp2_with fail
  refine (HPh.out w1 HE1.out).mono ?_
  rintro e w2 ⟨vP, rfl, he2, ho2⟩
  obtain ⟨aP, cP, rfl, hf2⟩ := ho2.free.open
  have hpl : (toI (phiL s)).length = n := by rw [toI_length, phiL_length, HL.out]
  rw [hpl] at hf2 ⊢
  have HE2 := Lib.hid (HE1.out.trans he2)
  have HEb := Lib.hid (HEa.out.trans he2)
  have HF2 := Lib.hid hf2
  have HF1 := Lib.hid (HF1.out.ev he2)
  clear he2 ho2 hf2 x0 x1 x2 hpl HEa HE1
  go_wp2_with fail
  go_loopg [3, 18] n (fun g v3 v18 wr => ∃ d : Nat, d ≤ n ∧ n - d ≤ g ∧ v18 = .int .i64 (d : Int) ∧ Ev R w2 R wr ∧ OwnRs R w2.heap.size wr v3 (cnt d) (partsF s))
  case atStart => exact ⟨0, Nat.zero_le _, by omega, rfl, Ev.refl HE2.out.inv, by rw [HOrd.out.zero]; exact ⟨none, 0, rfl, OwnV.nil R _ _ _ _⟩⟩
  case round =>
    obtain ⟨d, hd, hg, rfl, he, a3, c3, rfl, ho⟩ := hrel
    have HE := Lib.hid he
    have HO := Lib.hid ho
    clear he ho
    by_cases hdn : d < n
    · have hcle := HOrd.out.cnt_le (k := d) (by omega)
      have hcle1 := HOrd.out.cnt_le (k := d + 1) (by omega)
      have hmono := HOrd.out.mono (k := d + 1) (l := n) (by omega) (Nat.le_refl _)
      rw [HCN.out] at hmono
      obtain ⟨bN, oN, e1, hcN⟩ := (HF1.out.ev HE.out).1.cell (i := d) (by rw [HOrd.out.len]; exact hdn)
      subst e1
      have hor := HOrd.out.ord d hdn
      have hfst := fun e => HOrd.out.first hdn e
      obtain ⟨k, hk⟩ := Int.eq_ofNat_of_zero_le (HOrd.out.bound hdn).1
      rw [hk] at hcN hor hfst
      obtain ⟨q, hq⟩ : ∃ q, cnt d = q := ⟨_, rfl⟩
      obtain ⟨q1, hq1⟩ : ∃ q, cnt (d + 1) = q := ⟨_, rfl⟩
      rw [hq, hq1] at hor
      rw [hq] at HO hcle hfst ⊢
      rw [hq1] at hmono hcle1
      have HK := Lib.hid hk
      have HQ := Lib.hid hq
      have HQ1 := Lib.hid hq1
      have HFst := Lib.hid hfst
      clear hk hq hq1 hfst
      by_cases hnew : k = q
      · subst hnew
        obtain rfl : q1 = k + 1 := by omega
        clear hor
        have heq : ((k : Int) != (k : Int)) = false := by simp
        obtain ⟨x0, x1, x2⟩ := HCL.out wr (HEb.out.trans HE.out)
        have hP1 := HO1.out wr (HE2.out.trans HE.out) _ (HF1.out.ev HE.out) (k : Int)
        obtain ⟨V, hV⟩ : ∃ V, vcnt s (partsL s) (k : Int) n = V := ⟨_, rfl⟩
        obtain ⟨B, hB⟩ : ∃ V, vcnt (phiL s) (partsL s) (k : Int) n = V := ⟨_, rfl⟩
        obtain ⟨E, hE⟩ : ∃ V, ecnt (partsL s) (k : Int) n = V := ⟨_, rfl⟩
        obtain ⟨g0, hg0⟩ : ∃ V, genOf s (partsL s) k = V := ⟨_, rfl⟩
        rw [hV] at hP1
        have hgn := HGen.out k (by omega)
        have hhf := HHalf.out (k : Int)
        have hVb := vcnt_le s (partsL s) (k : Int) n
        have hEb := ecnt_le (partsL s) (k : Int) n
        have hBb := vcnt_le (phiL s) (partsL s) (k : Int) n
        have hg1 : genOf s (partsL s) k = (2 - (vcnt s (partsL s) (k : Int) s.length : Nat) + (ecnt (partsL s) (k : Int) s.length : Nat) - (vcnt (phiL s) (partsL s) (k : Int) s.length : Nat)) / 2 := rfl
        have hpf : partsF s k = ⟨(d : Int), (V : Int), (E : Int), (B : Int), g0⟩ := by
          unfold partsF
          rw [if_pos (by omega)]
          unfold partF partAt
          rw [rootOf_eq (j := d) (by rw [HOrd.out.len]; exact hdn) HK.out (HFst.out rfl), HL.out, hV, hE, hB, hg0]
        rw [HL.out] at hgn hhf hg1
        rw [hV, hE, hB, hg0] at hgn hg1
        rw [hE] at hhf hEb
        rw [hV] at hVb
        rw [hB] at hBb
        obtain ⟨ha, hb⟩ := hgn
        have hq0 : 0 ≤ 2 - (V : Int) + (E : Int) - (B : Int) := by omega
        have HG1 := Lib.hid hg1
        have HPF := Lib.hid hpf
        have HHF := Lib.hid hhf
        have HP1 := Lib.hid hP1
        have HBe := Lib.hid hB
        clear hP1 hV hB hE hg0 hg1 hpf hhf hb
        go_wp2_with fail
        refine HP1.out.mono ?_
        rintro e w3 ⟨rfl, he3⟩
        have HE3 := Lib.hid (HE.out.trans he3)
        have HO3 := Lib.hid (HO.out.ev he3)
        have hP2 := HO2.out w3 (HE2.out.trans HE3.out) _ _ (HF2.out.ev HE3.out) (HF1.out.ev HE3.out) (k : Int)
        rw [phiL_length, HL.out, HBe.out] at hP2
        have HP2 := Lib.hid hP2
        clear he3 x0 x1 x2 hcN hP2
        go_wp2_with fail
        refine HP2.out.mono ?_
        rintro e w4 ⟨rfl, he4⟩
        have HE4 := Lib.hid (HE3.out.trans he4)
        have HO4 := Lib.hid (HO3.out.ev he4)
        clear he4
        go_wp2_with fail
        obtain ⟨T0, hT0⟩ : ∃ T0 : TypeId, T0 = 107 := ⟨_, rfl⟩
        have hblk : (w4.alloc (.cells #[.int .i64 (d : Int), .int .i64 (V : Int), .int .i64 0, .int .i64 (B : Int), .int .i64 0] T0)).heap[w4.heap.size]? = some (.cells #[.int .i64 (d : Int), .int .i64 (V : Int), .int .i64 0, .int .i64 (B : Int), .int .i64 0] T0 (0, 0)) := heap_alloc_new w4 _
        have he5 := HE4.out.alloc (.cells #[.int .i64 (d : Int), .int .i64 (V : Int), .int .i64 0, .int .i64 (B : Int), .int .i64 0] T0)
        have ho5 := HO4.out.alloc (.cells #[.int .i64 (d : Int), .int .i64 (V : Int), .int .i64 0, .int .i64 (B : Int), .int .i64 0] T0)
        have hRg : R w4.heap.size = none := HE4.out.inv.none_of_ge (Nat.le_refl _)
        have hsz4 := HE4.out.size
        have hob : ∀ z, (Value.slice a3 k c3).ownBlock = some z → z < w4.heap.size := fun z hz => (HO4.out.lt z hz).2
        have HOB := Lib.hid hob
        rw [hT0] at hblk he5 ho5
        obtain ⟨w5, hw5⟩ : ∃ w5, w5 = w4.alloc (.cells #[.int .i64 (d : Int), .int .i64 (V : Int), .int .i64 0, .int .i64 (B : Int), .int .i64 0] 107) := ⟨_, rfl⟩
        rw [← hw5] at hblk he5 ho5 ⊢
        obtain ⟨g, hg⟩ : ∃ g, w4.heap.size = g := ⟨_, rfl⟩
        rw [hg] at hblk hRg hsz4 HOB ⊢
        have HB5 := Lib.hid hblk
        have HE5 := Lib.hid he5
        have HO5 := Lib.hid ho5
        clear hblk he5 ho5 hw5 hg hT0 hob HE4 HO4 HE3 HO3 HP1 HP2
        have hDle := fun i => dcnt_le (partsL s) (k : Int) i
        have HDL := Lib.hid hDle
        clear hDle
        go_loopg [40] n (fun gg v40 wr => ∃ (i : Nat) (D : Nat), i ≤ n ∧ n - i ≤ gg ∧ v40 = .int .i64 (i : Int) ∧ D = dcnt (partsL s) (k : Int) i ∧ wr.heap[g]? = some (.cells #[.int .i64 (d : Int), .int .i64 (V : Int), .int .i64 (D : Int), .int .i64 (B : Int), .int .i64 0] 107 (0, 0)) ∧ Ev R w2 R wr ∧ OwnV R w2.heap.size 107 5 wr (.slice a3 k c3) k (flatF (partsF s) k))
        case atStart => exact ⟨0, 0, by omega, by omega, rfl, rfl, HB5.out, HE5.out, HO5.out⟩
        case round =>
          obtain ⟨i, D, hi, hg2, rfl, hD, hblk, he, ho⟩ := hrel
          have hDb : D ≤ i := by rw [hD]; exact HDL.out i
          have HD := Lib.hid hD
          have HBk := Lib.hid hblk
          have HEi := Lib.hid he
          have HOi := Lib.hid ho
          have f1 := cells_at hblk 1
          have f2 := cells_at hblk 2
          have f3 := cells_at hblk 3
          have f4 := cells_at hblk 4
          have z2 := free_at hblk 2
          have z4 := free_at hblk 4
          have q0 : wr.cell? ⟨g, 0, none⟩ = some (.int .i64 (d : Int)) := cells_at hblk 0
          have q1 : wr.cell? ⟨g, 1, none⟩ = some (.int .i64 (V : Int)) := f1
          have q2 : wr.cell? ⟨g, 2, none⟩ = some (.int .i64 (D : Int)) := f2
          have q3 : wr.cell? ⟨g, 3, none⟩ = some (.int .i64 (B : Int)) := f3
          have q4 : wr.cell? ⟨g, 4, none⟩ = some (.int .i64 0) := f4
          have hne : ∀ o : Nat, (Value.slice a3 k c3).ownBlock ≠ some (⟨g, o, none⟩ : Addr).block := fun o e => Nat.lt_irrefl _ (HOB.out g e)
          have HNE := Lib.hid hne
          clear hD hblk he ho f1 f2 f3 f4 hne
          by_cases hin : i < n
          · obtain ⟨bM, oM, e1, hcM⟩ := (HF1.out.ev HEi.out).1.cell (i := i) (by rw [HOrd.out.len]; exact hin)
            cases e1
            obtain ⟨x, hx⟩ : ∃ x, nth (partsL s) i = x := ⟨_, rfl⟩
            rw [hx] at hcM
            have HX := Lib.hid hx
            clear hx
            by_cases hxk : x = (k : Int)
            · have heq2 : (x == (k : Int)) = true := by rw [beq_iff_eq]; exact hxk
              have HB2 := Lib.hid (heap_setCell_same wr g 2 _ _ (.int .i64 ((D : Int) + 1)) HBk.out)
              have HE2' := Lib.hid (HEi.out.setCell (p := ⟨g, 2, none⟩) hsz4 hRg (.int .i64 ((D : Int) + 1)))
              have HO2' := Lib.hid (HOi.out.setCell (a := ⟨g, 2, none⟩) (HNE.out 2) (.int .i64 ((D : Int) + 1)))
              have HXK := Lib.hid hxk
              clear hxk
              go_wp2_with fail
              go_roundg (n - (i + 1))
              case measure => omega
              case rel => exact ⟨i + 1, D + 1, by omega, by omega, by go_num, by rw [dcnt_succ, HX.out, if_pos HXK.out, HD.out], HB2.out, HE2'.out, HO2'.out⟩
            · have heq2 : (x == (k : Int)) = false := by rw [beq_eq_false_iff_ne]; exact hxk
              go_wp2_with fail
              go_roundg (n - (i + 1))
              case measure => omega
              case rel => exact ⟨i + 1, D, by omega, by omega, by go_num, by rw [dcnt_succ, HX.out, if_neg hxk, HD.out]; rfl, HBk.out, HEi.out, HOi.out⟩
          · obtain rfl : i = n := by omega
            have hDE : D = 2 * E := by rw [HD.out, HHF.out]
            have hdiv : (D : Int) / 2 = (E : Int) := by omega
            have hg1 := HG1.out
            subst hg1
            have hb1 := heap_setCell_same wr g 2 _ _ (.int .i64 (E : Int)) HBk.out
            have hb2 := heap_setCell_same _ g 4 _ _ (.int .i64 ((2 - (V : Int) + (E : Int) - (B : Int)) / 2)) hb1
            have he7 := ((HEi.out.setCell (p := ⟨g, 2, none⟩) hsz4 hRg (.int .i64 (E : Int))).setCell (p := ⟨g, 4, none⟩) hsz4 hRg (.int .i64 ((2 - (V : Int) + (E : Int) - (B : Int)) / 2))).alloc (.cells #[.int .i64 (d : Int), .int .i64 (V : Int), .int .i64 (E : Int), .int .i64 (B : Int), .int .i64 ((2 - (V : Int) + (E : Int) - (B : Int)) / 2)] 107)
            have ho7 := ((HOi.out.setCell (a := ⟨g, 2, none⟩) (HNE.out 2) (.int .i64 (E : Int))).setCell (a := ⟨g, 4, none⟩) (HNE.out 4) (.int .i64 ((2 - (V : Int) + (E : Int) - (B : Int)) / 2))).alloc (.cells #[.int .i64 (d : Int), .int .i64 (V : Int), .int .i64 (E : Int), .int .i64 (B : Int), .int .i64 ((2 - (V : Int) + (E : Int) - (B : Int)) / 2)] 107)
            have HE7 := Lib.hid he7
            have HO7 := Lib.hid ho7
            have hszw := HEi.out.size
            clear he7 ho7
            clear hb1 hb2
            subst hDE
            go_wp2_with (at_builtin; refine wpList_app_row 45 107 5 40 _ Try.underlying45 rpart_info rfl (by omega) (by omega) (R := R) (B := w2.heap.size) rfl _ _ rfl HO7.out rfl ⟨wr.heap.size, 0, none⟩ 1 1 (partC ⟨(d : Int), (V : Int), (E : Int), (B : Int), (2 - (V : Int) + (E : Int) - (B : Int)) / 2⟩) rfl rfl ?g1 ?g2 ?g3 ?g4 ?g5 ?_)
            case g1 => first | exact fun _ _ h => h | (intro j u h; have := new_cells ((wr.setCell ⟨g, 2, none⟩ (.int .i64 (E : Int))).setCell ⟨g, 4, none⟩ (.int .i64 ((2 - (V : Int) + (E : Int) - (B : Int)) / 2))) _ 107 j u h; simpa using this)
            case g2 =>
              intro u hu
              simp only [partC, List.mem_cons, List.not_mem_nil, or_false] at hu
              rcases hu with rfl | rfl | rfl | rfl | rfl <;> rfl
            case g3 => omega
            case g4 => first | omega | (simp; omega)
            case g5 => exact fun q hq => HE7.out.inv.none_of_ge (by simp at hq ⊢; omega)
            intro v' w8 ho8 hg8 _
            have HE8 := Lib.hid (HE7.out.appV HO7.out (Nat.le_refl _) hg8)
            have HO8 := Lib.hid ho8
            clear ho8 hg8
            go_wp2_with fail
            go_roundg (i - (d + 1))
            case measure => omega
            case rel =>
              have ho6 := HO8.out
              rw [← HPF.out] at ho6
              obtain ⟨a6, c6, rfl, _⟩ := ho6.open
              exact ⟨d + 1, by omega, by omega, by go_num, HE8.out, by rw [HQ1.out]; exact ⟨a6, c6, rfl, ho6⟩⟩
      · have heq : ((k : Int) != (q : Int)) = true := by rw [bne_iff_ne]; omega
        obtain rfl : q1 = q := by omega
        clear hor
        go_wp2_with fail
        go_roundg (n - (d + 1))
        case measure => omega
        case rel => exact ⟨d + 1, by omega, by omega, by go_num, HE.out, by rw [HQ1.out]; exact ⟨a3, c3, rfl, HO.out⟩⟩
    · obtain rfl : d = n := by omega
      rw [HCN.out] at HO ⊢
      obtain ⟨C, hC⟩ : ∃ C, partsN s = C := ⟨_, rfl⟩
      have hcle := HOrd.out.cnt_le (Nat.le_refl d)
      rw [HCN.out] at hcle
      rw [hC] at HO hcle ⊢
      have HC := Lib.hid hC
      have HLn : Hid (∀ i, C ≤ i → partsF s i = loneR) := Lib.hid (fun i hi => by
        unfold partsF
        rw [if_neg (by rw [hC]; omega)])
      have HX := Lib.hid (fun w' (h : Ev R w2 R w') => (HCL.out w' (HEb.out.trans h)).2.2)
      obtain ⟨wj2, hwj⟩ : ∃ wj : World, wj = wr := ⟨_, rfl⟩
      subst hwj
      clear hC hdn hd hg
      go_wp2_with fail
      go_loopg [3, 11] lone (fun g v3 v11 wr => ∃ i : Nat, i ≤ lone ∧ lone - i ≤ g ∧ v11 = .int .i64 (i : Int) ∧ Ev R w2 R wr ∧ OwnRs R w2.heap.size wr v3 (C + i) (partsF s))
      case atStart => exact ⟨0, Nat.zero_le _, by omega, rfl, HE.out, _, _, rfl, HO.out⟩
      case round =>
        obtain ⟨i, hi, hg, rfl, he, a3, c3, rfl, ho⟩ := hrel
        have HEx := Lib.hid he
        have HOx := Lib.hid ho
        have x2 := HX.out wr he
        clear he ho
        by_cases hil : i < lone
        · have ho4 := HOx.out.alloc (.cells #[.int .i64 (-1), .int .i64 1, .int .i64 0, .int .i64 1, .int .i64 0] 107)
          have he4 := HEx.out.alloc (.cells #[.int .i64 (-1), .int .i64 1, .int .i64 0, .int .i64 1, .int .i64 0] 107)
          have HO4 := Lib.hid ho4
          have HE4 := Lib.hid he4
          have hsz := HEx.out.size
          clear ho4 he4
          go_wp2_with (at_builtin; refine wpList_app_row 45 107 5 40 _ Try.underlying45 rpart_info rfl (by omega) (by omega) (R := R) (B := w2.heap.size) rfl _ _ rfl HO4.out rfl ⟨wr.heap.size, 0, none⟩ 1 1 (partC loneR) rfl rfl ?g6 ?g7 ?g8 ?g9 ?g0 ?_)
          case g6 => exact fun j u h => new_cells wr (partC loneR) _ j u h
          case g7 =>
            intro u hu
            simp only [partC, loneR, List.mem_cons, List.not_mem_nil, or_false] at hu
            rcases hu with rfl | rfl | rfl | rfl | rfl <;> rfl
          case g8 => omega
          case g9 => first | omega | (simp; omega)
          case g0 => exact fun q hq => HE4.out.inv.none_of_ge (by simp at hq ⊢; omega)
          intro v' w5 ho5 hg5 _
          have HE5 := Lib.hid (HE4.out.appV HO4.out (Nat.le_refl _) hg5)
          have HO5 := Lib.hid ho5
          clear ho5 hg5
          go_wp2_with fail
          go_roundg (lone - (i + 1))
          case measure => omega
          case rel =>
            have ho6 := HO5.out
            rw [← HLn.out (C + i) (by omega)] at ho6
            obtain ⟨a6, c6, rfl, _⟩ := ho6.open
            exact ⟨i + 1, by omega, by omega, by go_num, HE5.out, a6, c6, rfl, ho6⟩
        · obtain rfl : i = lone := by omega
          go_wp2_with fail
          go_ret
          refine ⟨_, rfl, HE2.out.trans HEx.out, ?_⟩
          rw [HC.out]
          exact ⟨a3, c3, rfl, HOx.out.mono HE2.out.size⟩

end Go.Proofs.Ytlbhmonpfchocaa

namespace Go.Proofs.Ytlbhmonpfchocaa
open Go.RowKit
set_option linter.unusedVariables false

def sumG (f : Nat → PartR) : Nat → Int
  | 0 => 0
  | k + 1 => sumG f k + (f k).g
theorem sumG_succ (f : Nat → PartR) (k : Nat) : sumG f (k + 1) = sumG f k + (f k).g := rfl

theorem sumG_bound {f : Nat → PartR} (h : ∀ k, 0 ≤ (f k).g ∧ (f k).g ≤ 65538) : ∀ k, 0 ≤ sumG f k ∧ sumG f k ≤ 65538 * (k : Int)
  | 0 => ⟨Int.le_refl _, by simp [sumG]⟩
  | k + 1 => by have := sumG_bound h k; have := h k; rw [sumG_succ]; omega
theorem sumG_parts (s : List Nat) : ∀ k, k ≤ partsN s → sumG (partsF s) k = genusTo s k
  | 0, _ => rfl
  | k + 1, hk => by
    rw [sumG_succ, sumG_parts s k (by omega)]
    unfold partsF
    rw [if_pos (by omega)]
    rfl
theorem sumG_all (s : List Nat) : ∀ lone, sumG (partsF s) (partsN s + lone) = genusL s
  | 0 => sumG_parts s _ (Nat.le_refl _)
  | l + 1 => by
    rw [← Nat.add_assoc, sumG_succ, sumG_all s l]
    unfold partsF
    rw [if_neg (by omega)]
    show _ + 0 = _
    omega

set_option maxRecDepth 100000 in
set_option maxHeartbeats 2000000 in
theorem egenus_any (R : Reg) (w : World) (hI : Inv R w) (p : Value) (s : List Nat) (root : Int) (lone : Nat) (hp : MapAt R p s root lone) :
    Calls Try.prog 47 #[p] w (RetV R w (.int .i64 (genusL s))) := by
  obtain ⟨hs, hok⟩ := hp.ok hI
  have he2 : s.length % 2 = 0 := hok.1
  have hn : s.length ≤ 131073 := hok.2.1
  have hlone : lone ≤ 65536 := by have := hok.2.2; omega
  have hpn := partsN_le hs he2
  have HP := Lib.hid (eparts_any R w hI p s root lone hp)
  have hG := partsF_g hs he2 hn
  have HS : Hid (∀ i, i ≤ partsN s + lone → 0 ≤ sumG (partsF s) i ∧ sumG (partsF s) i ≤ 65538 * 300000) := Lib.hid (fun i hi => by have := sumG_bound hG i; omega)
  have HG := Lib.hid hG
  have HA := Lib.hid (sumG_all s lone)
  have hcl : partsN s + lone ≤ 300000 := by omega
  clear hI hp hs hok hG
  go_enter Try.func47, Try.ntmps47
  go_wp2_with fail
  refine HP.out.mono ?_
  rintro e w1 ⟨v, R1, rfl, he, a, c, rfl, ho⟩
  have HO := Lib.hid ho
  have HE := Lib.hid he
  clear ho he
  go_wp2_with fail
  go_loopg [3, 9] (partsN s + lone) (fun gg v3 v9 wr => ∃ i : Nat, i ≤ partsN s + lone ∧ partsN s + lone - i ≤ gg ∧ v3 = .int .i64 (sumG (partsF s) i) ∧ v9 = .int .i64 (i : Int) ∧ Ev R1 w1 R1 wr)
  case atStart => exact ⟨0, by omega, by omega, rfl, rfl, Ev.refl HE.out.inv⟩
  case round =>
    obtain ⟨i, hi, hg, rfl, rfl, hev⟩ := hrel
    have HEv := Lib.hid hev
    clear hev
    by_cases hil : i < partsN s + lone
    · obtain ⟨b0, b1⟩ := HS.out i (by omega)
      obtain ⟨b2, b3⟩ := HG.out i
      have ho := HO.out.ev HEv.out
      obtain ⟨gb, rfl, _, _, c0, _⟩ := ho.headAt (i := i * 5 + 0) (by rw [flatF_length]; omega)
      obtain ⟨_, e1, _, _, c1, _⟩ := ho.headAt (i := i * 5 + 1) (by rw [flatF_length]; omega)
      cases e1
      obtain ⟨_, e1, _, _, c2, _⟩ := ho.headAt (i := i * 5 + 2) (by rw [flatF_length]; omega)
      cases e1
      obtain ⟨_, e1, _, _, c3, _⟩ := ho.headAt (i := i * 5 + 3) (by rw [flatF_length]; omega)
      cases e1
      obtain ⟨_, e1, _, _, c4, _⟩ := ho.headAt (i := i * 5 + 4) (by rw [flatF_length]; omega)
      cases e1
      rw [flatF_get (by omega) hil] at c0 c1 c2 c3 c4
      have HSs := Lib.hid (sumG_succ (partsF s) i)
      obtain ⟨S, hS⟩ : ∃ S, sumG (partsF s) i = S := ⟨_, rfl⟩
      obtain ⟨p, hp⟩ : ∃ p, partsF s i = p := ⟨_, rfl⟩
      rw [hS] at b0 b1 HSs ⊢
      rw [hp] at b2 b3 HSs c0 c1 c2 c3 c4
      obtain ⟨pr, pv, pe, pb, pg⟩ := p
      have HSs : Hid (sumG (partsF s) (i + 1) = S + pg) := HSs
      have b2 : 0 ≤ pg := b2
      have b3 : pg ≤ 65538 := b3
      have k0 : wr.cell? ⟨gb, i * 5, none⟩ = some (.int .i64 pr) := c0
      have k1 : wr.cell? ⟨gb, i * 5 + 1, none⟩ = some (.int .i64 pv) := c1
      have k2 : wr.cell? ⟨gb, i * 5 + 2, none⟩ = some (.int .i64 pe) := c2
      have k3 : wr.cell? ⟨gb, i * 5 + 3, none⟩ = some (.int .i64 pb) := c3
      have k4 : wr.cell? ⟨gb, i * 5 + 4, none⟩ = some (.int .i64 pg) := c4
      clear c0 c1 c2 c3 c4 hS hp ho
      go_wp2_with fail
      go_roundg (partsN s + lone - (i + 1))
      case measure => omega
      case rel => exact ⟨i + 1, by omega, by omega, by rw [HSs.out], by go_num, HEv.out.alloc _⟩
    · obtain rfl : i = partsN s + lone := by omega
      go_wp2_with fail
      go_ret
      rw [HA.out]
      exact ⟨rfl, R1, HE.out.trans HEv.out⟩

set_option maxRecDepth 100000 in
set_option maxHeartbeats 2000000 in
theorem r8genus_any (R : Reg) (w : World) (hI : Inv R w) (v : Value) (s : List Nat) (root : Int) (lone : Nat) (hv : FreeI R w v (toI s)) (hs : IsPerm s) (hn : s.length ≤ 131073) (he2 : s.length % 2 = 0) (hlone : lone ≤ 65536) :
    Calls Try.prog 43 #[refV v root lone] w (RetE R w (.int .i64 (genusL s))) := by
  obtain ⟨a0, cap0, rfl, hv⟩ := hv.open
  rw [toI_length] at hv ⊢
  have hpn := partsN_le hs he2
  have he0 : Ev R w R (w.alloc (.cells #[.slice a0 s.length cap0, .int .i64 root, .int .i64 lone] 34)) := (Ev.refl hI).alloc _
  have HP := Lib.hid (r8parts_any R _ he0.inv _ s root lone (hv.ev he0) hs hn he2 hlone)
  have hG := partsF_g hs he2 hn
  have HS : Hid (∀ i, i ≤ partsN s + lone → 0 ≤ sumG (partsF s) i ∧ sumG (partsF s) i ≤ 65538 * 300000) := Lib.hid (fun i hi => by have := sumG_bound hG i; omega)
  have HG := Lib.hid hG
  have HA := Lib.hid (sumG_all s lone)
  have hcl : partsN s + lone ≤ 300000 := by omega
  have HE0 := Lib.hid he0
  obtain ⟨R1, hR1⟩ : ∃ R1, R1 = R := ⟨_, rfl⟩
  rw [← hR1] at HE0 HP
  unfold refV at HP ⊢
  clear hI hv hs hG he0
  go_enter Try.func43, Try.ntmps43
  go_wp2_with fail
  refine HP.out.mono ?_
  rintro e w1 ⟨v, rfl, he, a, c, rfl, ho⟩
  have HO := Lib.hid ho
  have HE := Lib.hid he
  clear ho he
  go_wp2_with fail
  go_loopg [3, 9] (partsN s + lone) (fun gg v3 v9 wr => ∃ i : Nat, i ≤ partsN s + lone ∧ partsN s + lone - i ≤ gg ∧ v3 = .int .i64 (sumG (partsF s) i) ∧ v9 = .int .i64 (i : Int) ∧ Ev R1 w1 R1 wr)
  case atStart => exact ⟨0, by omega, by omega, rfl, rfl, Ev.refl HE.out.inv⟩
  case round =>
    obtain ⟨i, hi, hg, rfl, rfl, hev⟩ := hrel
    have HEv := Lib.hid hev
    clear hev
    by_cases hil : i < partsN s + lone
    · obtain ⟨b0, b1⟩ := HS.out i (by omega)
      obtain ⟨b2, b3⟩ := HG.out i
      have ho := HO.out.ev HEv.out
      obtain ⟨gb, rfl, _, _, c0, _⟩ := ho.headAt (i := i * 5 + 0) (by rw [flatF_length]; omega)
      obtain ⟨_, e1, _, _, c1, _⟩ := ho.headAt (i := i * 5 + 1) (by rw [flatF_length]; omega)
      cases e1
      obtain ⟨_, e1, _, _, c2, _⟩ := ho.headAt (i := i * 5 + 2) (by rw [flatF_length]; omega)
      cases e1
      obtain ⟨_, e1, _, _, c3, _⟩ := ho.headAt (i := i * 5 + 3) (by rw [flatF_length]; omega)
      cases e1
      obtain ⟨_, e1, _, _, c4, _⟩ := ho.headAt (i := i * 5 + 4) (by rw [flatF_length]; omega)
      cases e1
      rw [flatF_get (by omega) hil] at c0 c1 c2 c3 c4
      have HSs := Lib.hid (sumG_succ (partsF s) i)
      obtain ⟨S, hS⟩ : ∃ S, sumG (partsF s) i = S := ⟨_, rfl⟩
      obtain ⟨p, hp⟩ : ∃ p, partsF s i = p := ⟨_, rfl⟩
      rw [hS] at b0 b1 HSs ⊢
      rw [hp] at b2 b3 HSs c0 c1 c2 c3 c4
      obtain ⟨pr, pv, pe, pb, pg⟩ := p
      have HSs : Hid (sumG (partsF s) (i + 1) = S + pg) := HSs
      have b2 : 0 ≤ pg := b2
      have b3 : pg ≤ 65538 := b3
      have k0 : wr.cell? ⟨gb, i * 5, none⟩ = some (.int .i64 pr) := c0
      have k1 : wr.cell? ⟨gb, i * 5 + 1, none⟩ = some (.int .i64 pv) := c1
      have k2 : wr.cell? ⟨gb, i * 5 + 2, none⟩ = some (.int .i64 pe) := c2
      have k3 : wr.cell? ⟨gb, i * 5 + 3, none⟩ = some (.int .i64 pb) := c3
      have k4 : wr.cell? ⟨gb, i * 5 + 4, none⟩ = some (.int .i64 pg) := c4
      clear c0 c1 c2 c3 c4 hS hp ho
      go_wp2_with fail
      go_roundg (partsN s + lone - (i + 1))
      case measure => omega
      case rel => exact ⟨i + 1, by omega, by omega, by rw [HSs.out], by go_num, HEv.out.alloc _⟩
    · obtain rfl : i = partsN s + lone := by omega
      go_wp2_with fail
      go_ret
      rw [HA.out]
      subst hR1
      exact ⟨rfl, HE0.out.trans (HE.out.trans HEv.out)⟩

set_option maxRecDepth 100000 in
set_option maxHeartbeats 2000000 in
theorem connected_any (R : Reg) (w : World) (hI : Inv R w) (p : Value) (s : List Nat) (root : Int) (lone : Nat) (hp : MapAt R p s root lone) :
    Calls Try.prog 27 #[p] w (RetV R w (.bool (decide (partsN s + lone = 1)))) := by
  have HP := Lib.hid (eparts_any R w hI p s root lone hp)
  clear hI hp
  go_enter Try.func27, Try.ntmps27
  go_wp2_with fail
  refine HP.out.mono ?_
  rintro e w1 ⟨v, R1, rfl, he, a, c, rfl, ho⟩
  have HE := Lib.hid he
  clear he ho
  go_wp2_with fail
  go_ret
  refine ⟨ret_bool ?_, R1, HE.out⟩
  by_cases h : partsN s + lone = 1
  · rw [decide_eq_true h, beq_iff_eq]; omega
  · rw [decide_eq_false h, beq_eq_false_iff_ne]; omega

theorem loopsTo_succ (s : List Nat) (e : Nat) : loopsTo s (e + 1) = loopsTo s e + if loopB s e = true then 1 else 0 := rfl
theorem dblsTo_succ (s : List Nat) (e : Nat) : dblsTo s (e + 1) = dblsTo s e + if dblB s e = true then 1 else 0 := rfl

end Go.Proofs.Ytlbhmonpfchocaa

namespace Go.Proofs.Ytlbhmonpfchocaa
open Go.RowKit
set_option linter.unusedVariables false

/-- the world goes on, but for some blocks of the caller's -/
structure EvP (X : Nat → Prop) (R : Reg) (w : World) (R' : Reg) (w' : World) : Prop where
  os : w'.os = w.os
  tape : w'.tape = w.tape
  output : w'.output = w.output
  size : w.heap.size ≤ w'.heap.size
  block : ∀ k, k < w.heap.size → R k = none → ¬ X k → w'.heap[k]? = w.heap[k]?
  reg : ∀ k r, R k = some r → R' k = some r
  free : ∀ k, k < w.heap.size → R k = none → R' k = none
  inv : Inv R' w'

theorem Ev.toP {R R' : Reg} {w w' : World} (h : Ev R w R' w') (X : Nat → Prop) : EvP X R w R' w' := ⟨h.os, h.tape, h.output, h.size, fun k hk hr _ => h.block k hk hr, h.reg, h.free, h.inv⟩
theorem EvP.trans {X : Nat → Prop} {R R1 R2 : Reg} {w w1 w2 : World} (h : EvP X R w R1 w1) (k : EvP X R1 w1 R2 w2) : EvP X R w R2 w2 :=
  ⟨k.os.trans h.os, k.tape.trans h.tape, k.output.trans h.output, Nat.le_trans h.size k.size,
    fun i hi hr hx => (k.block i (Nat.lt_of_lt_of_le hi h.size) (h.free i hi hr) hx).trans (h.block i hi hr hx),
    fun i r hr => k.reg _ _ (h.reg _ _ hr), fun i hi hr => k.free i (Nat.lt_of_lt_of_le hi h.size) (h.free i hi hr), k.inv⟩
theorem EvP.setCell {X : Nat → Prop} {R R1 : Reg} {w w1 : World} (h : EvP X R w R1 w1) {p : Addr} (hx : X p.block) (hr : R1 p.block = none) (u : Value) : EvP X R w R1 (w1.setCell p u) :=
  ⟨h.os, h.tape, h.output, by simpa using h.size, fun k hk hk0 hkx => by
      rw [Below.heap_setCell _ _ _ _ (fun e => hkx (by rw [e]; exact hx))]
      exact h.block k hk hk0 hkx, h.reg, h.free, h.inv.setCell hr u⟩
/-- from an earlier world, of which these blocks are no part -/
theorem Ev.thenP {X : Nat → Prop} {R0 R R' : Reg} {w0 w w' : World} (h : Ev R0 w0 R w) (k : EvP X R w R' w') (hX : ∀ i, X i → w0.heap.size ≤ i) : Ev R0 w0 R' w' :=
  ⟨k.os.trans h.os, k.tape.trans h.tape, k.output.trans h.output, Nat.le_trans h.size k.size,
    fun i hi hr => (k.block i (Nat.lt_of_lt_of_le hi h.size) (h.free i hi hr) (fun hx => by have := hX i hx; omega)).trans (h.block i hi hr),
    fun i r hr => k.reg _ _ (h.reg _ _ hr), fun i hi hr => k.free i (Nat.lt_of_lt_of_le hi h.size) (h.free i hi hr), k.inv⟩
theorem OwnV.evP {X : Nat → Prop} {R R1 : Reg} {B : Nat} {E : TypeId} {sz : Nat} {w w1 : World} {v : Value} {n : Nat} {xs : List Value} (h : OwnV R B E sz w v n xs) (he : EvP X R w R1 w1) (hX : ∀ i, X i → i < B) : OwnV R1 B E sz w1 v n xs := by
  obtain ⟨⟨h1, h2⟩, h3⟩ := h
  rcases h2 with h2 | ⟨g, cap, cur, hv, hg, hh, r⟩
  · exact ⟨⟨h1, Or.inl h2⟩, fun k hk => by rw [h2.1] at hk; simp [Value.ownBlock] at hk⟩
  · have hn : R g = none := h3 g (by rw [hv]; rfl)
    refine ⟨⟨h1, Or.inr ⟨g, cap, cur, hv, hg, by rw [he.block g (lt_of_block hh) hn (fun hx => by have := hX g hx; omega)]; exact hh, r⟩⟩, fun k hk => ?_⟩
    rw [hv] at hk
    cases hk
    exact he.free g (lt_of_block hh) hn

/-- what was looked at: the map, of each edge its first kind and one, which vertices were met -/
def SeenAt (R : Reg) (B : Nat) (w : World) (vs p : Value) (b ge gm : Nat) (ed : List Int) (mt : List Bool) : Prop :=
  vs = .pointer (some ⟨b, 0, none⟩) ∧ B ≤ b ∧ R b = none ∧ b ≠ ge ∧ b ≠ gm ∧ ge ≠ gm ∧
  (∃ T : TypeId, w.heap[b]? = some (.cells #[p, .slice (some ⟨ge, 0, none⟩) ed.length ed.length, .slice (some ⟨gm, 0, none⟩) mt.length mt.length] T (0, 0))) ∧
  OwnI R B 3 w (.slice (some ⟨ge, 0, none⟩) ed.length ed.length) ed ∧ OwnV R B 4 1 w (.slice (some ⟨gm, 0, none⟩) mt.length mt.length) mt.length (mt.map Value.bool)

theorem SeenAt.ev {R R1 : Reg} {B : Nat} {w w1 : World} {vs p : Value} {b ge gm : Nat} {ed : List Int} {mt : List Bool} (h : SeenAt R B w vs p b ge gm ed mt) (he : Ev R w R1 w1) : SeenAt R1 B w1 vs p b ge gm ed mt := by
  obtain ⟨h1, h2, h3, h4, h5, h6, ⟨T, h7⟩, h8, h9⟩ := h
  have hl := lt_of_block h7
  exact ⟨h1, h2, he.free b hl h3, h4, h5, h6, ⟨T, by rw [he.block b hl h3]; exact h7⟩, h8.ev he, h9.ev he⟩

theorem SeenAt.putE {R : Reg} {B : Nat} {w : World} {vs p : Value} {b ge gm : Nat} {ed : List Int} {mt : List Bool} (h : SeenAt R B w vs p b ge gm ed mt) {i : Nat} (hi : i < ed.length) (y : Int) :
    SeenAt R B (w.setCell ⟨ge, i, none⟩ (.int .i64 y)) vs p b ge gm (ed.set i y) mt := by
  obtain ⟨h1, h2, h3, h4, h5, h6, ⟨T, h7⟩, h8, h9⟩ := h
  refine ⟨h1, h2, h3, h4, h5, h6, ⟨T, ?_⟩, ?_, ?_⟩
  · rw [Below.heap_setCell _ _ _ _ h4, h7, List.length_set]
  · rw [List.length_set]; exact h8.put rfl i hi y
  · exact h9.setCell (a := ⟨ge, i, none⟩) (fun e => h6 (by cases e; rfl)) _
theorem SeenAt.putM {R : Reg} {B : Nat} {w : World} {vs p : Value} {b ge gm : Nat} {ed : List Int} {mt : List Bool} (h : SeenAt R B w vs p b ge gm ed mt) (i : Nat) (y : Bool) :
    SeenAt R B (w.setCell ⟨gm, i, none⟩ (.bool y)) vs p b ge gm ed (mt.set i y) := by
  obtain ⟨h1, h2, h3, h4, h5, h6, ⟨T, h7⟩, h8, h9⟩ := h
  refine ⟨h1, h2, h3, h4, h5, h6, ⟨T, ?_⟩, ?_, ?_⟩
  · rw [Below.heap_setCell _ _ _ _ h5, h7, List.length_set]
  · exact h8.setCell (a := ⟨gm, i, none⟩) (fun e => h6 (by cases e; rfl)) _
  · rw [List.length_set]
    have := h9.put i (.bool y)
    rwa [List.map_set]

def KindQ (R : Reg) (B : Nat) (w : World) (vs p : Value) (b ge gm : Nat) (s : List Nat) (st : WSt) (e : Ending) (w' : World) : Prop :=
  ∃ R', e = .returned (.int .i64 (wkind s st : Int)) ∧ EvP (fun k => k = ge ∨ k = gm) R w R' w' ∧ SeenAt R' B w' vs p b ge gm (wed s st) (wmt s st)

theorem getB_at {l : List Bool} {i : Nat} (h : i < l.length) : (l.map Value.bool)[i]? = some (.bool (getB l i)) := by
  simp [getB, h]

set_option maxRecDepth 100000 in
set_option maxHeartbeats 2000000 in
theorem kind_any (R : Reg) (w : World) (hI : Inv R w) (B : Nat) (vs p : Value) (b ge gm : Nat) (s : List Nat) (root lone : Int) (hp : MapAt R p s root lone) (st : WSt) (hs : SeenAt R B w vs p b ge gm st.ed st.mt)
    (hd : st.d < s.length) (hel : st.ed.length = s.length / 2) (hml : (sizesL s).length ≤ st.mt.length) (hmb : st.mt.length ≤ 4194304) (hv : nth st.ed (st.d / 2) = 0 ∨ nth st.ed (st.d / 2) = 1 ∨ nth st.ed (st.d / 2) = 3) :
    Calls Try.prog 99 #[vs, .int .i64 (st.d : Int)] w (KindQ R B w vs p b ge gm s st) := by
  obtain ⟨hS, hok⟩ := hp.ok hI
  have he2 : s.length % 2 = 0 := hok.1
  have hn : s.length ≤ 131073 := hok.2.1
  have hs0 := hs
  obtain ⟨rfl, hBb, hRb, hbe, hbm, hem, ⟨T, hblk⟩, hoe, hom⟩ := hs
  obtain ⟨d, ed, mt⟩ := st
  simp only at hd hel hml hmb hv hblk hoe hom hs0 ⊢
  have hde : d / 2 < ed.length := by omega
  have hxl := xor_one_lt he2 hd
  have hvl := vtx_lt hS hxl
  have hvx := vtx_eq hS hxl
  have HMt := Lib.hid (fun R' w' (he : Ev R w R' w') => by
    have := mate_any R' w' he.inv p s root lone (he.map hp) d
    rwa [mateI_in hd] at this)
  have HVt := Lib.hid (fun R' w' (he : Ev R w R' w') => by
    have := vertex_any R' w' he.inv p s root lone (he.map hp) ((d ^^^ 1 : Nat) : Int)
    rwa [nameI_in hxl, hvx] at this)
  obtain ⟨c, hc⟩ : ∃ c, nth ed (d / 2) = c := ⟨_, rfl⟩
  obtain ⟨_, e1, _, hRe, hce, hze⟩ := hoe.headAt rfl (i := d / 2) hde
  cases e1
  rw [hc] at hce hv
  have hK : wkind s ⟨d, ed, mt⟩ = if c = 0 then (if getB mt (vtx s (d ^^^ 1)) = true then 2 else 0) else if c = 1 then 1 else 3 := by unfold wkind; rw [hc]
  have hE : wed s ⟨d, ed, mt⟩ = if c = 0 then ed.set (d / 2) ((wkind s ⟨d, ed, mt⟩ : Int) + 1) else ed := by unfold wed; rw [hc]
  have hM : wmt s ⟨d, ed, mt⟩ = if wkind s ⟨d, ed, mt⟩ = 0 then mt.set (vtx s (d ^^^ 1)) true else mt := rfl
  obtain ⟨x, hx⟩ : ∃ x, d ^^^ 1 = x := ⟨_, rfl⟩
  obtain ⟨v, hvv⟩ : ∃ v, vtx s x = v := ⟨_, rfl⟩
  rw [hx] at HMt HVt hvl hK hM
  rw [hvv] at HVt hvl hK hM
  have hq : (d : Int) / 2 = ((d / 2 : Nat) : Int) := by omega
  obtain ⟨h, hh⟩ : ∃ h, d / 2 = h := ⟨_, rfl⟩
  rw [hh] at hde hce hze hq hE hc
  have hqh : (d : Int) / 2 = (h : Int) := hq
  have k0 : w.cell? ⟨b, 0, none⟩ = some p := cells_at hblk 0
  have k1 : w.cell? ⟨b, 1, none⟩ = some (.slice (some ⟨ge, 0, none⟩) ed.length ed.length) := cells_at hblk 1
  have k2 : w.cell? ⟨b, 2, none⟩ = some (.slice (some ⟨gm, 0, none⟩) mt.length mt.length) := cells_at hblk 2
  have HS0 := Lib.hid hs0
  have HI := Lib.hid hI
  have HEr := Lib.hid (Ev.refl hI)
  have HCL := Lib.hid (fun R' w' (he : Ev R w R' w') => (by
    have hb := he.block b (lt_of_block hblk) hRb
    rw [hblk] at hb
    exact ⟨cells_at hb 0, cells_at hb 1, cells_at hb 2⟩ : w'.cell? ⟨b, 0, none⟩ = some p ∧ w'.cell? ⟨b, 1, none⟩ = some (.slice (some ⟨ge, 0, none⟩) ed.length ed.length) ∧ w'.cell? ⟨b, 2, none⟩ = some (.slice (some ⟨gm, 0, none⟩) mt.length mt.length)))
  have hel2 : ed.length ≤ 131073 := by omega
  have hvm : v < mt.length := by omega
  clear hq hI hs0 hS hok hx hvv hvx hh hc hp hoe hom hblk hel hml hvl
  rcases hv with rfl | rfl | rfl
  · rw [if_pos rfl] at hE
    by_cases hm : getB mt v = true
    · rw [if_pos rfl, if_pos hm] at hK
      rw [hK] at hE hM
      rw [if_neg (by decide)] at hM
      have HE := Lib.hid hE
      have HM := Lib.hid hM
      have HK := Lib.hid hK
      have HEd := Lib.hid (Ev.refl HEr.out.inv).drew
      clear hE hM hK
      go_enter Try.func99, Try.ntmps99
      go_wp2_with fail
      go_cut [7] (fun s7 wx => s7 = .int .i64 (v : Int) ∧ ∃ R', Ev R w R' wx)
      case first =>
        go_region_held3 (fun w' => w'.cell? ⟨b, 0, none⟩ = some p ∧ w'.cell? ⟨b, 1, none⟩ = some (.slice (some ⟨ge, 0, none⟩) ed.length ed.length) ∧ w'.cell? ⟨b, 2, none⟩ = some (.slice (some ⟨gm, 0, none⟩) mt.length mt.length)) (exact ⟨k0, k1, k2⟩) (first | (go_at_call 77; refine (HMt.out _ _ HEd.out).mono ?_; rintro e w' ⟨rfl, rfl⟩) | (go_at_call 85; refine (HVt.out _ _ HEd.out).mono ?_; rintro e w' ⟨rfl, R', he⟩; have HEd := Lib.hid (HEd.out.trans he); clear he; obtain ⟨k0, k1, k2⟩ := HCL.out _ _ HEd.out))
        all_goals (go_wp2_with fail; go_meet)
        all_goals exact ⟨rfl, _, HEd.out⟩
      case rest =>
        obtain ⟨rfl, R', he⟩ := hcut
        have HEx := Lib.hid he
        obtain ⟨k0, k1, k2⟩ := HCL.out _ _ he
        obtain ⟨_, _, _, _, _, _, _, hoe, hom⟩ := HS0.out.ev he
        obtain ⟨_, e1, hBe, hRe', hce, hze⟩ := hoe.headAt rfl (i := h) hde
        cases e1
        have hmv := getB_at (l := mt) hvm
        obtain ⟨_, e1, hBm, hRm', hcm, hzm⟩ := hom.headAt (i := v) (by rw [List.length_map]; exact hvm)
        cases e1
        rw [hmv] at hcm
        rw [hm] at hcm
        have hst := hoe.put rfl h hde (3 : Int)
        have HST := Lib.hid hst
        have HOM := Lib.hid hom
        have HOE := Lib.hid hoe
        clear he hoe hom hst hmv
        go_wp2_with fail
        go_ret
        refine ⟨R', by rw [HK.out]; rfl, ?_, ?_⟩
        · exact (HEx.out.toP _).setCell (Or.inl rfl) hRe' _
        · rw [HE.out, HM.out]
          exact (HS0.out.ev HEx.out).putE hde 3

    · rw [if_pos rfl, if_neg hm] at hK
      rw [hK] at hE hM
      rw [if_pos rfl] at hM
      have HE := Lib.hid hE
      have HM := Lib.hid hM
      have HK := Lib.hid hK
      have HEd := Lib.hid (Ev.refl HEr.out.inv).drew
      clear hE hM hK
      go_enter Try.func99, Try.ntmps99
      go_wp2_with fail
      go_cut [7] (fun s7 wx => s7 = .int .i64 (v : Int) ∧ ∃ R', Ev R w R' wx)
      case first =>
        go_region_held3 (fun w' => w'.cell? ⟨b, 0, none⟩ = some p ∧ w'.cell? ⟨b, 1, none⟩ = some (.slice (some ⟨ge, 0, none⟩) ed.length ed.length) ∧ w'.cell? ⟨b, 2, none⟩ = some (.slice (some ⟨gm, 0, none⟩) mt.length mt.length)) (exact ⟨k0, k1, k2⟩) (first | (go_at_call 77; refine (HMt.out _ _ HEd.out).mono ?_; rintro e w' ⟨rfl, rfl⟩) | (go_at_call 85; refine (HVt.out _ _ HEd.out).mono ?_; rintro e w' ⟨rfl, R', he⟩; have HEd := Lib.hid (HEd.out.trans he); clear he; obtain ⟨k0, k1, k2⟩ := HCL.out _ _ HEd.out))
        all_goals (go_wp2_with fail; go_meet)
        all_goals exact ⟨rfl, _, HEd.out⟩
      case rest =>
        obtain ⟨rfl, R', he⟩ := hcut
        have HEx := Lib.hid he
        obtain ⟨k0, k1, k2⟩ := HCL.out _ _ he
        obtain ⟨_, _, _, _, _, _, _, hoe, hom⟩ := HS0.out.ev he
        obtain ⟨_, e1, hBe, hRe', hce, hze⟩ := hoe.headAt rfl (i := h) hde
        cases e1
        have hmv := getB_at (l := mt) hvm
        obtain ⟨_, e1, hBm, hRm', hcm, hzm⟩ := hom.headAt (i := v) (by rw [List.length_map]; exact hvm)
        cases e1
        rw [hmv] at hcm
        rw [show getB mt v = false by simpa using hm] at hcm
        have hst := hoe.put rfl h hde (1 : Int)
        have HST := Lib.hid hst
        have HOM := Lib.hid hom
        have HOE := Lib.hid hoe
        clear he hoe hom hst hmv
        go_wp2_with fail
        go_ret
        refine ⟨R', by rw [HK.out]; rfl, ?_, ?_⟩
        · exact ((HEx.out.toP _).setCell (p := ⟨gm, v, none⟩) (Or.inr rfl) hRm' _).setCell (p := ⟨ge, h, none⟩) (Or.inl rfl) hRe' _
        · rw [HE.out, HM.out]
          exact ((HS0.out.ev HEx.out).putM v true).putE hde 1

  · rw [if_neg (by decide)] at hE
    rw [if_neg (by decide), if_pos rfl] at hK
    rw [hK, if_neg (by decide)] at hM
    have HE := Lib.hid hE
    have HM := Lib.hid hM
    have HK := Lib.hid hK
    clear hE hM hK
    go_enter Try.func99, Try.ntmps99
    go_wp2_with fail
    go_ret
    exact ⟨R, by rw [HK.out]; rfl, HEr.out.toP _, by rw [HE.out, HM.out]; exact HS0.out⟩
  · rw [if_neg (by decide)] at hE
    rw [if_neg (by decide), if_neg (by decide)] at hK
    rw [hK, if_neg (by decide)] at hM
    have HE := Lib.hid hE
    have HM := Lib.hid hM
    have HK := Lib.hid hK
    clear hE hM hK
    go_enter Try.func99, Try.ntmps99
    go_wp2_with fail
    go_ret
    exact ⟨R, by rw [HK.out]; rfl, HEr.out.toP _, by rw [HE.out, HM.out]; exact HS0.out⟩

end Go.Proofs.Ytlbhmonpfchocaa

namespace Go.Proofs.Ytlbhmonpfchocaa
open Go.RowKit
set_option linter.unusedVariables false

def stepsV : List (Int × Int) → List Value
  | [] => []
  | x :: l => .int .i64 x.1 :: .int .i64 x.2 :: stepsV l
theorem stepsV_length : ∀ l, (stepsV l).length = l.length * 2
  | [] => rfl
  | x :: l => by
    show (stepsV l).length + 1 + 1 = (l.length + 1) * 2
    rw [stepsV_length l]; omega
theorem stepsV_append : ∀ l m, stepsV (l ++ m) = stepsV l ++ stepsV m
  | [], _ => rfl
  | x :: l, m => by
    show _ :: _ :: stepsV (l ++ m) = _ :: _ :: (stepsV l ++ stepsV m)
    rw [stepsV_append l m]
def nthS (l : List (Int × Int)) (i : Nat) : Int × Int := l.getD i (0, 0)
theorem stepsV_get : ∀ {l : List (Int × Int)} {i : Nat}, i < l.length → (stepsV l)[i * 2]? = some (.int .i64 (nthS l i).1) ∧ (stepsV l)[i * 2 + 1]? = some (.int .i64 (nthS l i).2)
  | x :: l, 0, _ => ⟨rfl, rfl⟩
  | x :: l, i + 1, h => by
    have ih := stepsV_get (l := l) (i := i) (by simpa using h)
    have e : (i + 1) * 2 = i * 2 + 1 + 1 := by omega
    rw [e]
    exact ih
theorem stepsV_one : ∀ (l : List (Int × Int)) (u : Value), u ∈ stepsV l → u.oneCell' = true
  | [], u, h => by cases h
  | x :: l, u, h => by
    unfold stepsV at h
    simp only [List.mem_cons] at h
    rcases h with rfl | rfl | h
    · rfl
    · rfl
    · exact stepsV_one l u h
theorem nthS_take {l : List (Int × Int)} {k i : Nat} (h : i < k) : nthS (l.take k) i = nthS l i := by
  unfold nthS
  rw [List.getD_eq_getElem?_getD, List.getD_eq_getElem?_getD, List.getElem?_take, if_pos h]
theorem nthS_append_left {l m : List (Int × Int)} {i : Nat} (h : i < l.length) : nthS (l ++ m) i = nthS l i := by
  unfold nthS
  rw [List.getD_eq_getElem?_getD, List.getD_eq_getElem?_getD, List.getElem?_append_left h]
theorem nthS_get {l : List (Int × Int)} {i : Nat} (h : i < l.length) : nthS l i = l[i] := by
  unfold nthS; rw [List.getD_eq_getElem?_getD, List.getElem?_eq_getElem h]; rfl

theorem cells_new (w : World) (l : List Value) (T : TypeId) (j : Nat) (u : Value) (h : l[j]? = some u) : (w.alloc (.cells l.toArray T)).cell? ((⟨w.heap.size, 0, none⟩ : Addr).add j) = some u := by
  have hadd : (⟨w.heap.size, 0, none⟩ : Addr).add j = ⟨w.heap.size, j, none⟩ := by unfold Addr.add; split <;> simp_all
  rw [hadd]
  simp [h]

theorem step_info : (Try.prog.info? 115).map (fun i => (i.zero, i.size, i.bytes)) = some (some (.agg #[.int .i64 0, .int .i64 0]), 2, 16) := by kernel_rfl

/-- a row of steps that is read: in a block that no one has registered, or of no element -/
def FreeS (R : Reg) (w : World) (v : Value) (xs : List (Int × Int)) : Prop :=
  ∃ a cap, v = .slice a xs.length cap ∧ xs.length ≤ cap ∧ cap ≤ maxLen ∧ ∀ i, i < xs.length → ∃ b off, a = some ⟨b, off, none⟩ ∧ R b = none ∧ w.cell? ⟨b, off + i * 2, none⟩ = some (.int .i64 (nthS xs i).1) ∧ w.cell? ⟨b, off + i * 2 + 1, none⟩ = some (.int .i64 (nthS xs i).2)
theorem FreeS.ev {R R1 : Reg} {w w1 : World} {v : Value} {xs : List (Int × Int)} (h : FreeS R w v xs) (he : Ev R w R1 w1) : FreeS R1 w1 v xs := by
  obtain ⟨a, cap, h1, h2, h3, h4⟩ := h
  refine ⟨a, cap, h1, h2, h3, fun i hi => ?_⟩
  obtain ⟨b, off, e, hb, c1, c2⟩ := h4 i hi
  have hl := lt_of_cell c1
  exact ⟨b, off, e, he.free b hl hb, (he.cell hl hb).trans c1, (he.cell hl hb).trans c2⟩
theorem FreeS.nil (R : Reg) (w : World) : FreeS R w nilS [] := ⟨none, 0, rfl, Nat.le_refl _, by simp [maxLen], fun i hi => by simp at hi⟩
theorem FreeS.of_own {R : Reg} {B : Nat} {E : TypeId} {w : World} {v : Value} {xs : List (Int × Int)} (h : OwnV R B E 2 w v xs.length (stepsV xs)) : FreeS R w v xs := by
  obtain ⟨a, cap, e, h1, h2, h3⟩ := h.open
  refine ⟨a, cap, e, h1, h2, fun i hi => ?_⟩
  obtain ⟨g, e1, _, hn, c1, _⟩ := h3 (i * 2) (by rw [stepsV_length]; omega)
  obtain ⟨g', e2, _, _, c2, _⟩ := h3 (i * 2 + 1) (by rw [stepsV_length]; omega)
  have e3 : g' = g := by rw [e1] at e2; injection e2 with e2; injection e2 with e2; exact e2.symm
  subst e3
  exact ⟨g', 0, e1, hn, by rw [Nat.zero_add, c1, (stepsV_get hi).1], by rw [Nat.zero_add, c2, (stepsV_get hi).2]⟩
theorem FreeS.take {R : Reg} {w : World} {a : Option Addr} {n cap : Nat} {xs : List (Int × Int)} (h : FreeS R w (.slice a n cap) xs) {k : Nat} (hk : k ≤ n) : FreeS R w (.slice a k cap) (xs.take k) := by
  obtain ⟨a', cap', e, h1, h2, h3⟩ := h
  cases e
  have hl : (xs.take k).length = k := by rw [List.length_take]; omega
  refine ⟨_, _, by rw [hl], by omega, h2, fun i hi => ?_⟩
  rw [hl] at hi
  rw [nthS_take hi]
  exact h3 i (by omega)
theorem FreeS.open {R : Reg} {w : World} {v : Value} {xs : List (Int × Int)} (h : FreeS R w v xs) : ∃ a cap, v = .slice a xs.length cap ∧ FreeS R w (.slice a xs.length cap) xs := by
  have h' := h
  obtain ⟨a, cap, e, _⟩ := h
  subst e
  exact ⟨a, cap, rfl, h'⟩
theorem FreeS.at {R : Reg} {w : World} {a : Option Addr} {n cap : Nat} {xs : List (Int × Int)} (h : FreeS R w (.slice a n cap) xs) {i : Nat} (hi : i < n) :
    ∃ b off, a = some ⟨b, off, none⟩ ∧ R b = none ∧ w.cell? ⟨b, off + i * 2, none⟩ = some (.int .i64 (nthS xs i).1) ∧ w.cell? ⟨b, off + i * 2 + 1, none⟩ = some (.int .i64 (nthS xs i).2) := by
  obtain ⟨a', cap', e, h1, h2, h3⟩ := h
  cases e
  exact h3 i hi
theorem FreeS.length {R : Reg} {w : World} {a : Option Addr} {n cap : Nat} {xs : List (Int × Int)} (h : FreeS R w (.slice a n cap) xs) : n = xs.length := by
  obtain ⟨a', cap', e, h1, h2, h3⟩ := h
  cases e
  rfl

/-- make([]T, n) as an equation, in whatever world -/
theorem make_eq {n : Nat} {z : Value} {t e : TypeId} {i : TypeInfo} (h1 : Try.prog.underlying t = some (.slice e)) (h2 : Try.prog.info? e = some i) (h3 : i.zero = some z) (h4 : i.size = 1) (b2 : i.bytes * n ≤ 281474976710656) (b3 : n ≤ maxLen) (W : World) :
    (Instr.makeSlice t (.int .i64 (n : Int)) (.int .i64 (n : Int))).run Try.prog W = .ok (.slice (some ⟨W.heap.size, 0, none⟩) n n) (W.alloc (.cells (madeCells z.cells (n * 1)) e)) := by
  have h63' : (n : Int) ≤ 9223372036854775807 := by
    have h := b3
    simp [maxLen] at h
    omega
  have hb' : (i.bytes : Int) * (n : Int) ≤ 281474976710656 := by
    have h : ((i.bytes * n : Nat) : Int) ≤ 281474976710656 := by omega
    rwa [Int.natCast_mul] at h
  have hr := run_make (P := Try.prog) W t e i z h1 h2 h3 .i64 .i64 n n (by omega) (Int.le_refl _) hb' h63'
  simp only [Int.toNat_natCast, h4] at hr
  exact hr

/-- one's own row of noughts, of one cell each -/
theorem OwnV.madeAt {R : Reg} {w1 : World} {B : Nat} {E : TypeId} {g n : Nat} {z : Value} (hg : R g = none) (ho : w1.ownsRow B E 1 (.slice (some ⟨g, 0, none⟩) n n) n (madeCells #[z] (n * 1)).toList) :
    OwnV R B E 1 w1 (.slice (some ⟨g, 0, none⟩) n n) n (List.replicate n z) := by
  refine ⟨?_, fun k hk => ?_⟩
  · rw [Nat.mul_one, toList_madeCells_one] at ho
    exact ho
  · simp only [Value.ownBlock, Option.some.injEq] at hk
    rw [← hk]; exact hg

/-- a row of noughts, laid in the heap -/
theorem rowI_made {R : Reg} {W : World} {B n : Nat} (hI : Inv R W) (hB : B ≤ W.heap.size) (hn : n ≤ maxLen) :
    OwnI R B 3 (W.alloc (.cells (madeCells #[.int .i64 0] (n * 1)) 3)) (.slice (some ⟨W.heap.size, 0, none⟩) n n) (List.replicate n 0) := by
  have h := World.ownsRow_lit (size := 1) (e := 3) W _ n hB hn (size_madeCells #[.int .i64 0] (n * 1))
  exact OwnI.made hI (by simpa using h)
theorem rowV_made {R : Reg} {W : World} {B n : Nat} {E : TypeId} {z : Value} (hI : Inv R W) (hB : B ≤ W.heap.size) (hn : n ≤ maxLen) :
    OwnV R B E 1 (W.alloc (.cells (madeCells #[z] (n * 1)) E)) (.slice (some ⟨W.heap.size, 0, none⟩) n n) n (List.replicate n z) := by
  have h := World.ownsRow_lit (size := 1) (e := E) W _ n hB hn (size_madeCells #[z] (n * 1))
  exact OwnV.madeAt (hI.none_of_ge (Nat.le_refl _)) h

end Go.Proofs.Ytlbhmonpfchocaa
