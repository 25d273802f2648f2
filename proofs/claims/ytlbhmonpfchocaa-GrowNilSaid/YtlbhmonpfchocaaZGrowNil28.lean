/- grow: Split, Star. Conditions: at most 4000000 darts. grow.Star. Conditions: none. grow.Flip. Conditions: none. -/
import Derived.Test.YtlbhmonpfchocaaZGrowNil27
import Derived.Test.YtlbhmonpfchocaaZGrowNil01
namespace Go.Proofs.Ytlbhmonpfchocaa
open Go.RowKit
set_option linter.unusedVariables false

def splitL (s : List Nat) (d : Nat) : List Nat :=
  let n := s.length
  let m := d ^^^ 1
  let k := at' (invL s) m
  let L0 := s ++ [n, n + 1]
  let L1 := if k = m then L0.set (n + 1) (n + 1) else (L0.set k (n + 1)).set (n + 1) (at' L0 m)
  (L1.set n m).set m n

/-- a store into the draft's list, as a walk wants it -/
theorem DraftAt.stores {R0 R : Reg} {w0 w : World} {b : Nat} {p : Value} {L : List Nat} (h : DraftAt R0 w0 R w b p L) {n : Nat} (hn : L.length = n) (h0 : 0 < n) :
    ∃ g cap, w.cell? ⟨b, 0, none⟩ = some p ∧ w.cell? ⟨b, 1, none⟩ = some (.slice (some ⟨g, 0, none⟩) n cap) ∧ g ≠ b ∧
      (∀ i, i < n → w.cell? ⟨g, i, none⟩ = some (.int .i64 ((at' L i : Nat) : Int)) ∧ w.frozen? ⟨g, i, none⟩ = false) ∧
      (∀ i y, i < n → DraftAt R0 w0 R (w.setCell ⟨g, i, none⟩ (.int .i64 ((y : Nat) : Int))) b p (L.set i y) ∧
        (w.setCell ⟨g, i, none⟩ (.int .i64 ((y : Nat) : Int))).cell? ⟨b, 1, none⟩ = some (.slice (some ⟨g, 0, none⟩) n cap) ∧
        ∀ j, j < n → (w.setCell ⟨g, i, none⟩ (.int .i64 ((y : Nat) : Int))).cell? ⟨g, j, none⟩ = some (.int .i64 ((at' (L.set i y) j : Nat) : Int)) ∧ (w.setCell ⟨g, i, none⟩ (.int .i64 ((y : Nat) : Int))).frozen? ⟨g, j, none⟩ = false) ∧
      (∀ i y j z, i < n → j < n → DraftAt R0 w0 R ((w.setCell ⟨g, i, none⟩ (.int .i64 ((y : Nat) : Int))).setCell ⟨g, j, none⟩ (.int .i64 ((z : Nat) : Int))) b p ((L.set i y).set j z)) := by
  obtain ⟨a, cap, h1, h2, h3⟩ := h.ex
  rw [hn] at h1 h2 h3
  obtain ⟨g, rfl, _⟩ := h2.headAt (by rw [toI_length]; exact hn) h0
  obtain ⟨c0, c1, hf⟩ := draft_cells h1
  refine ⟨g, cap, c0, c1, fun e => h3 (by simp [Value.ownBlock, e]), fun i hi => ?_, fun i y hi => ?_, fun i y j z hi hj => ?_⟩
  · obtain ⟨g', e, _, _, k1, k2⟩ := h2.headAt (by rw [toI_length]; exact hn) hi
    cases e
    rw [toI_nth] at k1
    exact ⟨k1, k2⟩
  · obtain ⟨q1, q2, q3⟩ := DraftAt.put h hn h1 h2 h3 rfl hi y
    refine ⟨q1, (draft_cells q2).2.1, fun j hj => ?_⟩
    obtain ⟨g', e, _, _, k1, k2⟩ := q3.headAt (by rw [toI_length, List.length_set]; exact hn) hj
    cases e
    rw [toI_nth] at k1
    exact ⟨k1, k2⟩
  · obtain ⟨q1, q2, q3⟩ := DraftAt.put h hn h1 h2 h3 rfl hi y
    exact (DraftAt.put q1 (by rw [List.length_set]; exact hn) q2 q3 h3 rfl hj z).1

set_option maxRecDepth 100000 in
set_option maxHeartbeats 2000000 in
theorem split_any (R : Reg) (w : World) (hI : Inv R w) (p : Value) (s : List Nat) (root lone : Int) (hp : MapAt R p s root lone) (d : Int) :
    Calls Try.prog 50 #[p, .int .i64 d] w (WayPost R w (inR s.length d) true (splitL s d.toNat) root lone) := by
  obtain ⟨hS, hok⟩ := hp.ok hI
  have hn : s.length ≤ 131073 := hok.2.1
  have HOf := Lib.hid (gof_one R w hI p s root lone hp d)
  have HP := Lib.hid hp
  have HMt := Lib.hid (fun R' w' (h : Ev R w R' w') d => mate_any R' w' h.inv p s root lone (h.map hp) d)
  have HBk := Lib.hid (fun R' w' (h : Ev R w R' w') d => mback_any R' w' h.inv p s root lone (h.map hp) d)
  have HEv := Lib.hid hok.1
  have HIv := Lib.hid (invL_perm hS)
  have HIl := Lib.hid (invL_length s)
  clear hI hp hS hok
  go_enter Try.func50, Try.ntmps50
  go_wp2_with fail
  refine HOf.out.mono ?_
  rintro e w1 (⟨h1, rfl, he⟩ | ⟨h1, b, rfl, hd⟩)
  · have HE := Lib.hid he
    have H1 := Lib.hid h1
    clear he h1
    go_wp2_with fail
    go_ret2
    exact Or.inl ⟨H1.out, rfl, R, HE.out⟩
  · obtain ⟨k, rfl, hk⟩ := inR_nat h1
    have HD1 := Lib.hid hd
    have H1 := Lib.hid h1
    have hmk := xor_one_lt HEv.out hk
    have hm := mateI_in hk
    obtain ⟨m, hme⟩ : ∃ m, k ^^^ 1 = m := ⟨_, rfl⟩
    rw [hme] at hmk hm
    have hb := backI_in hmk
    have hkb := HIv.out.lt (i := m) (by rw [HIl.out]; exact hmk)
    rw [HIl.out] at hkb
    obtain ⟨bk, hbk⟩ : ∃ x, at' (invL s) m = x := ⟨_, rfl⟩
    rw [hbk] at hkb hb
    have hsp : splitL s (k : Int).toNat = ((if bk = m then (s ++ [s.length, s.length + 1]).set (s.length + 1) (s.length + 1) else ((s ++ [s.length, s.length + 1]).set bk (s.length + 1)).set (s.length + 1) (at' (s ++ [s.length, s.length + 1]) m)).set s.length m).set m s.length := by
      simp only [splitL, Int.toNat_natCast, hme, hbk]
    have hll : (splitL s (k : Int).toNat).length = s.length + 2 := by
      rw [hsp]; split <;> simp
    obtain ⟨L0, hL0⟩ : ∃ L, s ++ [s.length, s.length + 1] = L := ⟨_, rfl⟩
    rw [hL0] at hsp
    have hl0 : L0.length = s.length + 2 := by rw [← hL0]; simp
    obtain ⟨n, hne⟩ : ∃ n, s.length = n := ⟨_, rfl⟩
    have HNe := Lib.hid hne
    obtain ⟨SP, hSP⟩ : ∃ L, splitL s (k : Int).toNat = L := ⟨_, rfl⟩
    rw [hSP] at hsp hll
    have HSPe := Lib.hid hSP
    rw [hne] at hn hmk hkb hsp hll hl0 hk
    have hw1 : IntKind.i64.wrap ((n : Int) + 1) = ((n + 1 : Nat) : Int) := by rw [show (n : Int) + 1 = ((n + 1 : Nat) : Int) by omega]; exact IntWalk.i64_in _ (by omega)
    obtain ⟨n1, hn1⟩ : ∃ x, n + 1 = x := ⟨_, rfl⟩
    rw [hn1] at hw1 hsp
    have HN1 := Lib.hid hn1
    have HSp := Lib.hid hsp
    have HLl := Lib.hid hll
    have HL0 := Lib.hid hl0
    have HL0e := Lib.hid hL0
    have HM := Lib.hid hm
    have HB := Lib.hid hb
    clear hd h1 HOf hme hbk hsp hll hl0 hL0 hne hSP hn1 hm hb
    go_wp2_with fail
    refine (gedge_any HD1.out (by have := HNe.out; omega)).mono ?_
    rintro e w2 ⟨rfl, hd2⟩
    rw [HL0e.out] at hd2
    rw [HNe.out]
    have HD2 := Lib.hid hd2
    have hmt := HMt.out _ _ hd2.ev (k : Int)
    rw [HM.out] at hmt
    have HMt2 := Lib.hid hmt
    clear hd2 hmt
    go_wp2_with fail
    refine HMt2.out.mono ?_
    rintro e w' ⟨rfl, rfl⟩
    have hbk := HBk.out _ _ HD2.out.ev (m : Int)
    rw [HB.out] at hbk
    have HBk2 := Lib.hid hbk
    clear hbk HMt2
    go_wp2_with fail
    refine HBk2.out.mono ?_
    rintro e w3 ⟨rfl, R3, he3⟩
    have HD3 := Lib.hid (HD2.out.step he3)
    clear he3 HD2 HBk2
    by_cases hbm : bk = m
    · subst hbm
      have hbe : ((bk : Int) == (bk : Int)) = true := by simp
      have hsp := HSp.out
      rw [if_pos rfl] at hsp
      obtain ⟨g, cap, c0, c1, hgb, hc, hput, _⟩ := HD3.out.stores HL0.out (by omega)
      obtain ⟨k1, f1⟩ := hc n1 (by have := HN1.out; omega)
      obtain ⟨hd4, _⟩ := hput n1 n1 (by have := HN1.out; omega)
      have HD4 := Lib.hid hd4
      have HSp2 := Lib.hid hsp
      clear hd4 hput hc hsp
      have hn1r : (n1 : Int) < ((n + 2 : Nat) : Int) := by have := HN1.out; omega
      have hnr : (n : Int) < ((n + 2 : Nat) : Int) := by omega
      have hmr : (bk : Int) < ((n + 2 : Nat) : Int) := by omega
      go_upto_region 9 with fail
      obtain ⟨w4, hw4⟩ : ∃ w4, w4 = w3.setCell ⟨g, n1, none⟩ (.int .i64 (n1 : Int)) := ⟨_, rfl⟩
      rw [← hw4] at HD4 ⊢
      clear hw4 c0 c1 k1 f1 HD3
      -- region 9: l[n], l[mate] = mate, n
      obtain ⟨g2, cap2, e0, e1, hgb2, hc2, hp2, hpp⟩ := HD4.out.stores (n := n + 2) (by simp only [List.length_set]; exact HL0.out) (by omega)
      obtain ⟨k3, f3⟩ := hc2 n (by omega)
      obtain ⟨_, _, hj⟩ := hp2 n bk (by omega)
      obtain ⟨k4, f4⟩ := hj bk (by omega)
      have HD6 := Lib.hid (hpp n bk bk n (by omega) (by omega))
      clear hc2 hp2 hpp hj
      go_region
      all_goals (go_wp2_with fail)
      have hd6 := HD6.out.drew
      rw [← HSp2.out] at hd6
      have HDn := Lib.hid (gdone_any hd6 root lone (hd6.ev.map HP.out) (by have := HLl.out; omega))
      clear hd6
      refine HDn.out.mono ?_
      rintro e w7 hpo
      obtain ⟨q, c, rfl⟩ := hpo.two
      have HPo := Lib.hid hpo
      clear hpo HDn
      go_wp2_with fail
      go_ret2
      exact Or.inr (Or.inr ⟨H1.out, rfl, by rw [HSPe.out]; exact HPo.out⟩)
    · have hbe : ((bk : Int) == (m : Int)) = false := by simp; omega
      have hsp := HSp.out
      rw [if_neg hbm] at hsp
      obtain ⟨g, cap, c0, c1, hgb, hc, hput, hpp0⟩ := HD3.out.stores HL0.out (by omega)
      obtain ⟨y, hy⟩ : ∃ y, at' L0 m = y := ⟨_, rfl⟩
      obtain ⟨k0, f0⟩ := hc m (by omega)
      rw [hy] at k0 hsp
      obtain ⟨k1, f1⟩ := hc bk (by omega)
      obtain ⟨_, _, hj0⟩ := hput bk n1 (by omega)
      obtain ⟨k2, f2⟩ := hj0 n1 (by have := HN1.out; omega)
      have HD4 := Lib.hid (hpp0 bk n1 n1 y (by omega) (by have := HN1.out; omega)).drew
      have HSp2 := Lib.hid hsp
      have hn1r : (n1 : Int) < ((n + 2 : Nat) : Int) := by have := HN1.out; omega
      have hnr : (n : Int) < ((n + 2 : Nat) : Int) := by omega
      have hmr : (m : Int) < ((n + 2 : Nat) : Int) := by omega
      have hbr : (bk : Int) < ((n + 2 : Nat) : Int) := by omega
      clear hc hput hpp0 hj0 hsp hy
      go_upto_region 8 with fail
      go_region
      go_upto_region 9 with fail
      obtain ⟨w4, hw4⟩ : ∃ w4, w4 = ((w3.setCell ⟨g, bk, none⟩ (.int .i64 (n1 : Int))).setCell ⟨g, n1, none⟩ (.int .i64 (y : Int))).drew := ⟨_, rfl⟩
      rw [← hw4] at HD4 ⊢
      clear hw4 c0 c1 k0 f0 k1 f1 k2 f2 HD3
      -- region 9: l[n], l[mate] = mate, n
      obtain ⟨g2, cap2, e0, e1, hgb2, hc2, hp2, hpp⟩ := HD4.out.stores (n := n + 2) (by simp only [List.length_set]; exact HL0.out) (by omega)
      obtain ⟨k3, f3⟩ := hc2 n (by omega)
      obtain ⟨_, _, hj⟩ := hp2 n m (by omega)
      obtain ⟨k4, f4⟩ := hj m (by omega)
      have HD6 := Lib.hid (hpp n m m n (by omega) (by omega))
      clear hc2 hp2 hpp hj
      go_region
      all_goals (go_wp2_with fail)
      have hd6 := HD6.out.drew
      rw [← HSp2.out] at hd6
      have HDn := Lib.hid (gdone_any hd6 root lone (hd6.ev.map HP.out) (by have := HLl.out; omega))
      clear hd6
      refine HDn.out.mono ?_
      rintro e w7 hpo
      obtain ⟨q, c, rfl⟩ := hpo.two
      have HPo := Lib.hid hpo
      clear hpo HDn
      go_wp2_with fail
      go_ret2
      exact Or.inr (Or.inr ⟨H1.out, rfl, by rw [HSPe.out]; exact HPo.out⟩)

set_option maxRecDepth 100000 in
set_option maxHeartbeats 2000000 in
theorem gback_any (R : Reg) (w : World) (hI : Inv R w) (p : Value) (s : List Nat) (root lone : Int) (hp : MapAt R p s root lone) (d : Int) :
    Calls Try.prog 87 #[p, .int .i64 d] w (RetV R w (.int .i64 (mateI s.length (backI s d)))) := by
  have HBk := Lib.hid (mback_any R w hI p s root lone hp d)
  have HMt := Lib.hid (fun R' w' (h : Ev R w R' w') d => mate_any R' w' h.inv p s root lone (h.map hp) d)
  clear hI hp
  go_enter Try.func87, Try.ntmps87
  go_wp2_with fail
  refine HBk.out.mono ?_
  rintro e w1 ⟨rfl, R1, he1⟩
  have HE1 := Lib.hid he1
  clear he1
  go_wp2_with fail
  refine (HMt.out _ _ HE1.out _).mono ?_
  rintro e w' ⟨rfl, rfl⟩
  go_wp2_with fail
  go_ret
  exact ⟨rfl, R1, HE1.out⟩
set_option maxRecDepth 100000 in
set_option maxHeartbeats 2000000 in
theorem gtri_any (R : Reg) (w : World) (hI : Inv R w) (p : Value) (s : List Nat) (root lone : Int) (hp : MapAt R p s root lone) (d : Int) :
    Calls Try.prog 88 #[p, .int .i64 d] w (RetV R w (.bool (decide ((orbI (phiL s) d).length = 3)))) := by
  have HBd := Lib.hid (border_any R w hI p s root lone hp d)
  obtain ⟨O, hO⟩ : ∃ O, orbI (phiL s) d = O := ⟨_, rfl⟩
  rw [hO] at HBd ⊢
  clear hI hp hO
  go_enter Try.func88, Try.ntmps88
  go_wp2_with fail
  refine HBd.out.mono ?_
  rintro e w1 ⟨v1, rfl, he1, ho1⟩
  obtain ⟨a1, c1, rfl, _⟩ := ho1.ints.open
  have HE1 := Lib.hid he1
  clear he1 ho1
  by_cases h3 : O.length = 3
  · have h3b : ((O.length : Int) == 3) = true := by simp; omega
    have hd := decide_eq_true h3
    rw [hd]
    go_wp2_with fail
    go_ret
    exact ⟨by simp [h3], R, HE1.out⟩
  · have h3b : ((O.length : Int) == 3) = false := by simp; omega
    have hd := decide_eq_false h3
    rw [hd]
    go_wp2_with fail
    go_ret
    exact ⟨by simp; omega, R, HE1.out⟩

def starGo (s ys : List Nat) : Nat → List Nat
  | 0 => s
  | i + 1 =>
    let n := s.length + 2 * i
    let L1 := behindL (starGo s ys i ++ [n, n + 1]) n (at' (invL s) (at' ys i))
    if i = 0 then L1 else (L1.set (n + 1) (n - 1)).set (s.length + 1) (n + 1)
theorem starGo_length (s ys : List Nat) : ∀ i, (starGo s ys i).length = s.length + 2 * i
  | 0 => rfl
  | i + 1 => by
    have := starGo_length s ys i
    unfold starGo
    dsimp only
    split
    · rw [behindL_length]; simp; omega
    · rw [List.length_set, List.length_set, behindL_length]; simp; omega
def starL (s : List Nat) (d : Nat) : List Nat := starGo s (orbitL (phiL s) d) (orbitL (phiL s) d).length
end Go.Proofs.Ytlbhmonpfchocaa

namespace Go.Proofs.Ytlbhmonpfchocaa
open Go.RowKit
set_option linter.unusedVariables false

def lastI (n i : Nat) : Int := if i = 0 then -1 else ((n + 2 * i - 2 : Nat) : Int)

set_option maxRecDepth 100000 in
set_option maxHeartbeats 3000000 in
theorem star_any (R : Reg) (w : World) (hI : Inv R w) (p : Value) (s : List Nat) (root lone : Int) (hp : MapAt R p s root lone) (d : Int) :
    Calls Try.prog 51 #[p, .int .i64 d] w (WayPost R w (inR s.length d) true (starL s d.toNat) root lone) := by
  obtain ⟨hS, hok⟩ := hp.ok hI
  have hn : s.length ≤ 131073 := hok.2.1
  have HOf := Lib.hid (gof_one R w hI p s root lone hp d)
  have HP := Lib.hid hp
  have HMt := Lib.hid (fun R' w' (h : Ev R w R' w') d => mate_any R' w' h.inv p s root lone (h.map hp) d)
  have HGb := Lib.hid (fun R' w' (h : Ev R w R' w') d => gback_any R' w' h.inv p s root lone (h.map hp) d)
  have HBd := Lib.hid (fun R' w' (h : Ev R w R' w') d => border_any R' w' h.inv p s root lone (h.map hp) d)
  have HEv := Lib.hid hok.1
  have HIv := Lib.hid (invL_perm hS)
  have HIl := Lib.hid (invL_length s)
  have HPh := Lib.hid (phiL_perm hS hok.1)
  clear hI hp hS hok
  go_enter Try.func51, Try.ntmps51
  go_wp2_with fail
  refine HOf.out.mono ?_
  rintro e w1 (⟨h1, rfl, he⟩ | ⟨h1, b, rfl, hd⟩)
  · have HE := Lib.hid he
    have H1 := Lib.hid h1
    clear he h1
    go_wp2_with fail
    go_ret2
    exact Or.inl ⟨H1.out, rfl, R, HE.out⟩
  · obtain ⟨k, rfl, hk⟩ := inR_nat h1
    have HD1 := Lib.hid hd
    have H1 := Lib.hid h1
    have hbd := HBd.out _ _ hd.ev (k : Int)
    rw [orbI_in (by rw [phiL_length]; exact hk)] at hbd
    have hol := orbitL_length (phiL s) k
    have hlt := orbitL_lt HPh.out (i := k) (by rw [phiL_length]; exact hk)
    rw [phiL_length] at hol hlt
    have hst : starL s (k : Int).toNat = starGo s (orbitL (phiL s) k) (orbitL (phiL s) k).length := by unfold starL; rw [Int.toNat_natCast]
    obtain ⟨O, hO⟩ : ∃ O, orbitL (phiL s) k = O := ⟨_, rfl⟩
    rw [hO] at hbd hol hlt hst
    obtain ⟨m, hm⟩ : ∃ m, O.length = m := ⟨_, rfl⟩
    obtain ⟨n, hne⟩ : ∃ n, s.length = n := ⟨_, rfl⟩
    have HOm := Lib.hid hm
    have HNe := Lib.hid hne
    rw [hm] at hol hst
    rw [hne] at hol hlt hn hk
    have HB := Lib.hid hbd
    have HLt := Lib.hid hlt
    have HSt := Lib.hid hst
    have hn0 : 0 < n := by omega
    obtain ⟨g0, cap0, c0, c1, _⟩ := hd.stores hne (by omega)
    clear hd h1 HOf hbd hlt hst hO hm hne
    go_wp2_with fail
    refine HB.out.mono ?_
    rintro e w2 ⟨v2, rfl, he2, ho2⟩
    obtain ⟨a2, cc2, rfl, _⟩ := ho2.ints.open
    rw [toI_length, HOm.out] at ho2 ⊢
    obtain ⟨R2, he3, hfx, _⟩ := OwnI.fix he2 (Nat.le_refl _) ho2
    have HD2 := Lib.hid (HD1.out.step he3)
    have HFx := Lib.hid hfx
    clear he2 he3 ho2 hfx c0 c1 HB HD1
    go_wp2_with fail
    go_loopg [8, 32] m (fun g v8 v32 wr => ∃ (i : Nat) (R' : Reg), i ≤ m ∧ m - i ≤ g ∧ v32 = .int .i64 (i : Int) ∧ v8 = .int .i64 (lastI n i) ∧ DraftAt R w R' wr b p (starGo s O i) ∧ FixI R' (.slice a2 m cc2) (toI O))
    case atStart => exact ⟨0, R2, Nat.zero_le _, by omega, rfl, rfl, HD2.out, HFx.out⟩
    case round =>
      obtain ⟨i, R', him, hg, rfl, rfl, hdr, hfx⟩ := hrel
      have HDr := Lib.hid hdr
      have HFr := Lib.hid hfx
      clear hfx HFx HD2
      have hlen := starGo_length s O i
      rw [HNe.out] at hlen
      by_cases hi : i < m
      · obtain ⟨bS, oS, rfl, hc⟩ := FixI.cell hdr.ev.inv HFr.out (i := i) (by rw [HOm.out]; exact hi)
        have hy : at' O i < n := HLt.out _ (by rw [at'_eq (by rw [HOm.out]; exact hi)]; exact List.getElem_mem _)
        obtain ⟨y, hye⟩ : ∃ y, at' O i = y := ⟨_, rfl⟩
        rw [hye] at hc hy
        have hbk := HIv.out.lt (i := y) (by rw [HIl.out, HNe.out]; exact hy)
        rw [HIl.out, HNe.out] at hbk
        have hbi := backI_in (s := s) (i := y) (by rw [HNe.out]; exact hy)
        have hstep : starGo s O (i + 1) = if i = 0 then behindL (starGo s O i ++ [n + 2 * i, n + 2 * i + 1]) (n + 2 * i) (at' (invL s) y) else ((behindL (starGo s O i ++ [n + 2 * i, n + 2 * i + 1]) (n + 2 * i) (at' (invL s) y)).set (n + 2 * i + 1) (n + 2 * i - 1)).set (n + 1) (n + 2 * i + 1) := by
          simp only [starGo, HNe.out, hye]
        obtain ⟨bk, hbke⟩ : ∃ x, at' (invL s) y = x := ⟨_, rfl⟩
        rw [hbke] at hbk hbi hstep
        have hbm := xor_one_lt (n := n) (by rw [← HNe.out]; exact HEv.out) hbk
        have hma := mateI_in (n := n) hbk
        have hmb := mateI_in (n := n) hbm
        rw [xor_one_one] at hmb
        obtain ⟨bm, hbme⟩ : ∃ x, bk ^^^ 1 = x := ⟨_, rfl⟩
        rw [hbme] at hma hmb hbm
        obtain ⟨N, hN⟩ : ∃ N, n + 2 * i = N := ⟨_, rfl⟩
        rw [hN] at hstep hlen
        obtain ⟨LL, hLL⟩ : ∃ L, starGo s O i = L := ⟨_, rfl⟩
        rw [hLL] at hdr hlen hstep
        have hi' : (i : Int) < (m : Int) := by omega
        have hNl : N ≤ 400000 := by omega
        have hnN : n ≤ N := by omega
        have hcl0 : ¬ ((i : Int) < 0) := by omega
        have hed := gedge_any hdr (by omega)
        rw [hlen] at hed
        have HEd := Lib.hid hed
        have hGb := fun R' w' (h : Ev R w R' w') => HGb.out R' w' h (y : Int)
        rw [hbi, HNe.out, hma] at hGb
        have HGb2 := Lib.hid hGb
        have hMt := fun R' w' (h : Ev R w R' w') => HMt.out R' w' h (bm : Int)
        rw [HNe.out, hmb] at hMt
        have HMt2 := Lib.hid hMt
        have hl1 : (LL ++ [N, N + 1]).length = N + 2 := by simp [hlen]
        have HL1 := Lib.hid hl1
        have HStep := Lib.hid hstep
        have HN := Lib.hid hN
        clear hdr hed hGb hMt hl1 hstep hbi hma hmb hbke hbme hye hLL hlen HDr hN
        go_wp2_with fail
        refine HEd.out.mono ?_
        rintro e w3 ⟨rfl, hd3⟩
        have HD3 := Lib.hid hd3
        have HG3 := Lib.hid (HGb2.out _ _ hd3.ev)
        clear hd3 HEd
        go_wp2_with fail
        refine HG3.out.mono ?_
        rintro e w4 ⟨rfl, R4, he4⟩
        have HD4 := Lib.hid (HD3.out.step he4)
        have HF4 := Lib.hid (FixI.mono he4.reg HFr.out)
        clear he4 HD3 HG3 HFr
        go_wp2_with fail
        refine (HMt2.out _ _ HD4.out.ev).mono ?_
        rintro e w' ⟨rfl, rfl⟩
        have HBh := Lib.hid (gbehind_any HD4.out (d := N) (t := bk) (by rw [HL1.out]; omega) (by rw [HL1.out]; omega) (by rw [HL1.out]; omega))
        go_wp2_with fail
        refine HBh.out.mono ?_
        rintro e w5 ⟨rfl, hd5⟩
        have HD5 := Lib.hid hd5
        clear hd5 HBh HD4 HGb2 HMt2
        by_cases hi0 : i = 0
        · subst hi0
          have hst := HStep.out
          rw [if_pos rfl] at hst
          have HSt2 := Lib.hid hst
          have hla : lastI n 0 = -1 := rfl
          have hlb : lastI n (0 + 1) = (N : Int) := by have := HN.out; unfold lastI; rw [if_neg (by omega)]; omega
          have HLb := Lib.hid hlb
          rw [hla]
          clear hst hla hlb HStep
          go_wp2_with fail
          go_roundg (m - (0 + 1))
          case measure => omega
          case rel => exact ⟨0 + 1, R4, by omega, by omega, by go_num, by rw [HLb.out], by rw [HSt2.out]; exact HD5.out, HF4.out⟩
        · have hst := HStep.out
          rw [if_neg hi0] at hst
          have HSt2 := Lib.hid hst
          obtain ⟨P, hP⟩ : ∃ P, N - 1 = P := ⟨_, rfl⟩
          obtain ⟨P0, hP0⟩ : ∃ P, n + 2 * i - 2 = P := ⟨_, rfl⟩
          have hla : lastI n i = (P0 : Int) := by unfold lastI; rw [if_neg hi0, hP0]
          have hlb : lastI n (i + 1) = (N : Int) := by have := HN.out; unfold lastI; rw [if_neg (by omega)]; omega
          have HLb := Lib.hid hlb
          have hNN := HN.out
          have hw1 : IntKind.i64.wrap ((N : Int) + 1) = ((N + 1 : Nat) : Int) := by rw [show (N : Int) + 1 = ((N + 1 : Nat) : Int) by omega]; exact IntWalk.i64_in _ (by omega)
          have hw2 : IntKind.i64.wrap ((n : Int) + 1) = ((n + 1 : Nat) : Int) := by rw [show (n : Int) + 1 = ((n + 1 : Nat) : Int) by omega]; exact IntWalk.i64_in _ (by omega)
          have hw3 : IntKind.i64.wrap ((P0 : Int) + 1) = (P : Int) := by rw [show (P0 : Int) + 1 = (P : Int) by omega]; exact IntWalk.i64_in _ (by omega)
          obtain ⟨N1, hN1⟩ : ∃ x, N + 1 = x := ⟨_, rfl⟩
          obtain ⟨n1, hn1⟩ : ∃ x, n + 1 = x := ⟨_, rfl⟩
          rw [hN1] at hw1 hst
          rw [hn1] at hw2 hst
          rw [hP] at hst
          have HSt2 := Lib.hid hst
          obtain ⟨g, cap, c0, c1, hgb, hcc, hput, hpp0⟩ := HD5.out.stores (n := N + 2) (by rw [behindL_length]; exact HL1.out) (by omega)
          have hr1 : (N1 : Int) < ((N + 2 : Nat) : Int) := by omega
          have hr2 : (n1 : Int) < ((N + 2 : Nat) : Int) := by omega
          obtain ⟨k1, f1⟩ := hcc N1 (by omega)
          obtain ⟨_, _, hj0⟩ := hput N1 P (by omega)
          obtain ⟨k2, f2⟩ := hj0 n1 (by omega)
          have HD6 := Lib.hid (hpp0 N1 P n1 N1 (by omega) (by omega)).drew
          have hp0 : ¬ ((P0 : Int) < 0) := by omega
          have HN1 := Lib.hid hN1
          rw [hla]
          clear hst hla hlb HStep hcc hput hpp0 hj0 hNN hP hP0 hN1 hn1
          go_wp2_with fail
          go_region
          go_wp2_with fail
          go_roundg (m - (i + 1))
          case measure => omega
          case rel => exact ⟨i + 1, R4, by omega, by omega, by go_num, by rw [HLb.out], by rw [HSt2.out]; have h := HD6.out; rw [HN1.out] at h; exact h, HF4.out⟩
      · obtain rfl : i = m := by omega
        have hst := HSt.out
        have HDn := Lib.hid (gdone_any hdr root lone (hdr.ev.map HP.out) (by omega))
        clear hdr HDr hlen
        go_wp2_with fail
        refine HDn.out.mono ?_
        rintro e w7 hpo
        obtain ⟨q, c, rfl⟩ := hpo.two
        have HPo := Lib.hid hpo
        clear hpo HDn
        go_wp2_with fail
        go_ret2
        exact Or.inr (Or.inr ⟨H1.out, rfl, by rw [HSt.out]; exact HPo.out⟩)
end Go.Proofs.Ytlbhmonpfchocaa

namespace Go.Proofs.Ytlbhmonpfchocaa
open Go.RowKit
set_option linter.unusedVariables false

/-- a draft's list, in every later world -/
theorem DraftAt.along {R0 R : Reg} {w0 w : World} {b : Nat} {p : Value} {L : List Nat} (h : DraftAt R0 w0 R w b p L) {n : Nat} (hn : L.length = n) (h0 : 0 < n) :
    ∃ g cap, ∀ R' w', Ev R w R' w' → w'.cell? ⟨b, 0, none⟩ = some p ∧ w'.cell? ⟨b, 1, none⟩ = some (.slice (some ⟨g, 0, none⟩) n cap) ∧
      (∀ i, i < n → w'.cell? ⟨g, i, none⟩ = some (.int .i64 ((at' L i : Nat) : Int)) ∧ w'.frozen? ⟨g, i, none⟩ = false) ∧
      (∀ i y, i < n → DraftAt R0 w0 R' (w'.setCell ⟨g, i, none⟩ (.int .i64 ((y : Nat) : Int))) b p (L.set i y) ∧ (w'.setCell ⟨g, i, none⟩ (.int .i64 ((y : Nat) : Int))).cell? ⟨b, 1, none⟩ = some (.slice (some ⟨g, 0, none⟩) n cap)) := by
  obtain ⟨a, cap, h1, h2, h3⟩ := h.ex
  rw [hn] at h1 h2 h3
  obtain ⟨g, rfl, _⟩ := h2.headAt (by rw [toI_length]; exact hn) h0
  refine ⟨g, cap, fun R' w' he => ?_⟩
  have h1' := (he.block b (lt_of_block h1) h.nb).trans h1
  have h2' := h2.ev he
  obtain ⟨c0, c1, hf⟩ := draft_cells h1'
  refine ⟨c0, c1, fun i hi => ?_, fun i y hi => ?_⟩
  · obtain ⟨g', e, _, _, k1, k2⟩ := h2'.headAt (by rw [toI_length]; exact hn) hi
    cases e
    rw [toI_nth] at k1
    exact ⟨k1, k2⟩
  · obtain ⟨q1, q2, _⟩ := DraftAt.put (h.step he) hn h1' h2' h3 rfl hi y
    exact ⟨q1, (draft_cells q2).2.1⟩

def flipL (s : List Nat) (d : Nat) : List Nat :=
  let m := d ^^^ 1
  let a := at' (invL s) (at' (phiL s) (at' (phiL s) d))
  let b := at' (invL s) (at' (phiL s) (at' (phiL s) m))
  let L1 := (s.set (at' (invL s) d) (at' s d)).set (at' (invL s) m) (at' s m)
  behindL ((behindL (L1.set d d) d a).set m m) m b
def flipB (s : List Nat) (d : Nat) : Bool :=
  decide ((orbI (phiL s) (d : Int)).length = 3) && decide ((orbI (phiL s) ((d ^^^ 1 : Nat) : Int)).length = 3) && !decide (nameI (phiL s) (d : Int) = nameI (phiL s) ((d ^^^ 1 : Nat) : Int)) && !decide (at' s d = d) && !decide (at' s (d ^^^ 1) = d ^^^ 1)

set_option maxRecDepth 100000 in
set_option maxHeartbeats 1200000 in
theorem flip_any (R : Reg) (w : World) (hI : Inv R w) (p : Value) (s : List Nat) (root lone : Int) (hp : MapAt R p s root lone) (d : Int) :
    Calls Try.prog 52 #[p, .int .i64 d] w (WayPost R w (inR s.length d) (flipB s d.toNat) (flipL s d.toNat) root lone) := by
  obtain ⟨hS, hok⟩ := hp.ok hI
  have hn : s.length ≤ 131073 := hok.2.1
  have HOf := Lib.hid (gof_one R w hI p s root lone hp d)
  have HP := Lib.hid hp
  have HMt := Lib.hid (fun R' w' (h : Ev R w R' w') d => mate_any R' w' h.inv p s root lone (h.map hp) d)
  have HTr := Lib.hid (fun R' w' (h : Ev R w R' w') d => gtri_any R' w' h.inv p s root lone (h.map hp) d)
  have HFc := Lib.hid (fun R' w' (h : Ev R w R' w') d => face_any R' w' h.inv p s root lone (h.map hp) d)
  have HSg := Lib.hid (fun R' w' (h : Ev R w R' w') (d : Nat) (hd : d < s.length) => (by
    have h := sigma_any R' w' h.inv p s root lone (h.map hp) (d : Int)
    rw [atI_in hd] at h
    exact h : Calls Try.prog 55 #[p, .int .i64 (d : Int)] w' fun e w2 => e = .returned (.int .i64 ((at' s d : Nat) : Int)) ∧ w' = w2))
  have HPi := Lib.hid (fun R' w' (h : Ev R w R' w') (d : Nat) (hd : d < s.length) => (by
    have h := phi_any R' w' h.inv p s root lone (h.map hp) (d : Int)
    rw [atI_in (by rw [phiL_length]; exact hd)] at h
    exact h : Calls Try.prog 89 #[p, .int .i64 (d : Int)] w' fun e w2 => e = .returned (.int .i64 ((at' (phiL s) d : Nat) : Int)) ∧ w' = w2))
  have HBk := Lib.hid (fun R' w' (h : Ev R w R' w') (d : Nat) (hd : d < s.length) => (by
    have h := mback_any R' w' h.inv p s root lone (h.map hp) (d : Int)
    rw [backI_in hd] at h
    exact h : Calls Try.prog 86 #[p, .int .i64 (d : Int)] w' (RetV R' w' (.int .i64 ((at' (invL s) d : Nat) : Int)))))
  have HEv := Lib.hid hok.1
  have hiv := invL_perm hS
  have hil := invL_length s
  have hph := phiL_perm hS hok.1
  have hivl : ∀ i, i < s.length → at' (invL s) i < s.length := fun i hi => by have := hiv.lt (i := i) (by rw [hil]; exact hi); omega
  have hphl : ∀ i, i < s.length → at' (phiL s) i < s.length := fun i hi => by have := hph.lt (i := i) (by rw [phiL_length]; exact hi); rw [phiL_length] at this; exact this
  have HIv := Lib.hid hivl
  have HPh := Lib.hid hphl
  have HSl := Lib.hid (fun i (hi : i < s.length) => hS.lt hi)
  clear hI hp hS hok hiv hil hph hivl hphl
  go_enter Try.func52, Try.ntmps52
  go_wp2_with fail
  refine HOf.out.mono ?_
  rintro e w1 (⟨h1, rfl, he⟩ | ⟨h1, b, rfl, hd⟩)
  · have HE := Lib.hid he
    have H1 := Lib.hid h1
    clear he h1
    go_wp2_with fail
    go_ret2
    exact Or.inl ⟨H1.out, rfl, R, HE.out⟩
  · obtain ⟨k, rfl, hk⟩ := inR_nat h1
    have HD1 := Lib.hid hd
    have H1 := Lib.hid h1
    have hmk := xor_one_lt HEv.out hk
    have hm := mateI_in hk
    have hfb : flipB s (k : Int).toNat = (decide ((orbI (phiL s) (k : Int)).length = 3) && decide ((orbI (phiL s) ((k ^^^ 1 : Nat) : Int)).length = 3) && !decide (nameI (phiL s) (k : Int) = nameI (phiL s) ((k ^^^ 1 : Nat) : Int)) && !decide (at' s k = k) && !decide (at' s (k ^^^ 1) = k ^^^ 1)) := by
      unfold flipB; rw [Int.toNat_natCast]
    have hfl : flipL s (k : Int).toNat = behindL ((behindL (((s.set (at' (invL s) k) (at' s k)).set (at' (invL s) (k ^^^ 1)) (at' s (k ^^^ 1))).set k k) k (at' (invL s) (at' (phiL s) (at' (phiL s) k)))).set (k ^^^ 1) (k ^^^ 1)) (k ^^^ 1) (at' (invL s) (at' (phiL s) (at' (phiL s) (k ^^^ 1)))) := by
      simp only [flipL, Int.toNat_natCast]
    obtain ⟨m, hme⟩ : ∃ m, k ^^^ 1 = m := ⟨_, rfl⟩
    rw [hme] at hmk hm hfb hfl
    obtain ⟨n, hne⟩ : ∃ n, s.length = n := ⟨_, rfl⟩
    have HNe := Lib.hid hne
    have HM := Lib.hid hm
    obtain ⟨B1, hB1⟩ : ∃ x, decide ((orbI (phiL s) (k : Int)).length = 3) = x := ⟨_, rfl⟩
    obtain ⟨B2, hB2⟩ : ∃ x, decide ((orbI (phiL s) (m : Int)).length = 3) = x := ⟨_, rfl⟩
    obtain ⟨N1, hN1⟩ : ∃ x, nameI (phiL s) (k : Int) = x := ⟨_, rfl⟩
    obtain ⟨N2, hN2⟩ : ∃ x, nameI (phiL s) (m : Int) = x := ⟨_, rfl⟩
    obtain ⟨S1, hS1⟩ : ∃ x, at' s k = x := ⟨_, rfl⟩
    obtain ⟨S2, hS2⟩ : ∃ x, at' s m = x := ⟨_, rfl⟩
    rw [hB1, hB2, hN1, hN2, hS1, hS2] at hfb
    rw [hS1, hS2] at hfl
    have T1 := fun R' w' (h : Ev R w R' w') => HTr.out R' w' h (k : Int)
    have T2 := fun R' w' (h : Ev R w R' w') => HTr.out R' w' h (m : Int)
    have F1 := fun R' w' (h : Ev R w R' w') => HFc.out R' w' h (k : Int)
    have F2 := fun R' w' (h : Ev R w R' w') => HFc.out R' w' h (m : Int)
    have G1 := fun R' w' (h : Ev R w R' w') => HSg.out R' w' h k hk
    have G2 := fun R' w' (h : Ev R w R' w') => HSg.out R' w' h m hmk
    rw [hB1] at T1
    rw [hB2] at T2
    rw [hN1] at F1
    rw [hN2] at F2
    rw [hS1] at G1
    rw [hS2] at G2
    have HT1 := Lib.hid T1
    have HT2 := Lib.hid T2
    have HF1 := Lib.hid F1
    have HF2 := Lib.hid F2
    have HG1 := Lib.hid G1
    have HG2 := Lib.hid G2
    have HFb := Lib.hid hfb
    -- the darts of the ends
    have z1 := HPh.out k hk
    have z2 := HPh.out _ z1
    have z3 := HIv.out _ z2
    have y1 := HPh.out m hmk
    have y2 := HPh.out _ y1
    have y3 := HIv.out _ y2
    have x1 := HIv.out k hk
    have x2 := HIv.out m hmk
    have u1 := fun R' w' (h : Ev R w R' w') => HPi.out R' w' h k hk
    have u2 := fun R' w' (h : Ev R w R' w') => HPi.out R' w' h _ z1
    have u3 := fun R' w' (h : Ev R w R' w') => HBk.out R' w' h _ z2
    have v1 := fun R' w' (h : Ev R w R' w') => HPi.out R' w' h m hmk
    have v2 := fun R' w' (h : Ev R w R' w') => HPi.out R' w' h _ y1
    have v3 := fun R' w' (h : Ev R w R' w') => HBk.out R' w' h _ y2
    have r1 := fun R' w' (h : Ev R w R' w') => HBk.out R' w' h k hk
    have r2 := fun R' w' (h : Ev R w R' w') => HBk.out R' w' h m hmk
    obtain ⟨p1, e1⟩ : ∃ x, at' (phiL s) k = x := ⟨_, rfl⟩
    rw [e1] at z1 z2 z3 u1 u2 u3 hfl
    obtain ⟨p2, e2⟩ : ∃ x, at' (phiL s) p1 = x := ⟨_, rfl⟩
    rw [e2] at z2 z3 u2 u3 hfl
    obtain ⟨A, e3⟩ : ∃ x, at' (invL s) p2 = x := ⟨_, rfl⟩
    rw [e3] at z3 u3 hfl
    obtain ⟨q1, e4⟩ : ∃ x, at' (phiL s) m = x := ⟨_, rfl⟩
    rw [e4] at y1 y2 y3 v1 v2 v3 hfl
    obtain ⟨q2, e5⟩ : ∃ x, at' (phiL s) q1 = x := ⟨_, rfl⟩
    rw [e5] at y2 y3 v2 v3 hfl
    obtain ⟨C, e6⟩ : ∃ x, at' (invL s) q2 = x := ⟨_, rfl⟩
    rw [e6] at y3 v3 hfl
    obtain ⟨I1, e7⟩ : ∃ x, at' (invL s) k = x := ⟨_, rfl⟩
    rw [e7] at x1 r1 hfl
    obtain ⟨I2, e8⟩ : ∃ x, at' (invL s) m = x := ⟨_, rfl⟩
    rw [e8] at x2 r2 hfl
    rw [hne] at hn hk hmk z3 y3 x1 x2
    have HFl := Lib.hid hfl
    have U1 := Lib.hid u1
    have U2 := Lib.hid u2
    have U3 := Lib.hid u3
    have V1 := Lib.hid v1
    have V2 := Lib.hid v2
    have V3 := Lib.hid v3
    have RR1 := Lib.hid r1
    have RR2 := Lib.hid r2
    clear hd h1 HOf hm hfb hfl hme hne hB1 hB2 hN1 hN2 hS1 hS2 T1 T2 F1 F2 G1 G2 u1 u2 u3 v1 v2 v3 r1 r2 e1 e2 e3 e4 e5 e6 e7 e8 z1 z2 y1 y2 HTr HFc HSg HPi HBk
    have hmt := HMt.out _ _ HD1.out.ev (k : Int)
    rw [HM.out] at hmt
    have HMt2 := Lib.hid hmt
    clear hmt HMt
    go_wp2_with fail
    refine HMt2.out.mono ?_
    rintro e w' ⟨rfl, rfl⟩
    clear HMt2
    go_wp2_with fail
    refine (HT1.out _ _ HD1.out.ev).mono ?_
    rintro e w2 ⟨rfl, R2, he⟩
    have HD2 := Lib.hid (HD1.out.step he)
    clear he HD1
    cases B1 with
    | false =>
      go_wp2_with fail
      go_ret2
      exact Or.inr (Or.inl ⟨H1.out, by rw [HFb.out]; simp, rfl, R2, HD2.out.ev⟩)
    | true =>
      go_wp2_with fail
      refine (HT2.out _ _ HD2.out.ev).mono ?_
      rintro e w3 ⟨rfl, R3, he⟩
      have HD3 := Lib.hid (HD2.out.step he)
      clear he HD2
      cases B2 with
      | false =>
        go_wp2_with fail
        go_ret2
        exact Or.inr (Or.inl ⟨H1.out, by rw [HFb.out]; simp, rfl, R3, HD3.out.ev⟩)
      | true =>
        go_wp2_with fail
        refine (HF1.out _ _ HD3.out.ev).mono ?_
        rintro e w4 ⟨rfl, R4, he⟩
        have HD4 := Lib.hid (HD3.out.step he)
        clear he HD3
        go_wp2_with fail
        refine (HF2.out _ _ HD4.out.ev).mono ?_
        rintro e w5 ⟨rfl, R5, he⟩
        have HD5 := Lib.hid (HD4.out.step he)
        clear he HD4
        by_cases hN : N1 = N2
        · have hb1 : (N1 == N2) = true := by simp [hN]
          go_wp2_with fail
          go_ret2
          exact Or.inr (Or.inl ⟨H1.out, by rw [HFb.out]; simp [hN], rfl, R5, HD5.out.ev⟩)
        · have hb1 : (N1 == N2) = false := by simp [hN]
          go_wp2_with fail
          refine (HG1.out _ _ HD5.out.ev).mono ?_
          rintro e w' ⟨rfl, rfl⟩
          by_cases hK1 : S1 = k
          · have hb2 : ((S1 : Int) == (k : Int)) = true := by simp [hK1]
            go_wp2_with fail
            go_ret2
            exact Or.inr (Or.inl ⟨H1.out, by rw [HFb.out]; simp [hK1], rfl, R5, HD5.out.ev⟩)
          · have hb2 : ((S1 : Int) == (k : Int)) = false := by simp; omega
            go_wp2_with fail
            refine (HG2.out _ _ HD5.out.ev).mono ?_
            rintro e w' ⟨rfl, rfl⟩
            by_cases hK2 : S2 = m
            · have hb3 : ((S2 : Int) == (m : Int)) = true := by simp [hK2]
              go_wp2_with fail
              go_ret2
              exact Or.inr (Or.inl ⟨H1.out, by rw [HFb.out]; simp [hK2], rfl, R5, HD5.out.ev⟩)
            · have hb3 : ((S2 : Int) == (m : Int)) = false := by simp; omega
              have HFb2 : Hid (flipB s (k : Int).toNat = true) := Lib.hid (by rw [HFb.out]; simp [hN, hK1, hK2])
              clear HFb
              go_wp2_with fail
              refine (U1.out _ _ HD5.out.ev).mono ?_
              rintro e w' ⟨rfl, rfl⟩
              go_wp2_with fail
              refine (U2.out _ _ HD5.out.ev).mono ?_
              rintro e w' ⟨rfl, rfl⟩
              go_wp2_with fail
              refine (U3.out _ _ HD5.out.ev).mono ?_
              rintro e w6 ⟨rfl, R6, he⟩
              have HD6 := Lib.hid (HD5.out.step he)
              clear he HD5 hb1 hb2 hb3
              go_wp2_with fail
              refine (V1.out _ _ HD6.out.ev).mono ?_
              rintro e w' ⟨rfl, rfl⟩
              go_wp2_with fail
              refine (V2.out _ _ HD6.out.ev).mono ?_
              rintro e w' ⟨rfl, rfl⟩
              go_wp2_with fail
              refine (V3.out _ _ HD6.out.ev).mono ?_
              rintro e w7 ⟨rfl, R7, he⟩
              have HD7 := Lib.hid (HD6.out.step he)
              have HD8 := Lib.hid (HD7.out.step ((Ev.refl HD7.out.ev.inv).alloc (.cells #[.int .i64 (k : Int), .int .i64 (A : Int), .int .i64 (m : Int), .int .i64 (C : Int)] 130)))
              clear he HD6 U1 U2 U3 V1 V2 V3
              have ix0 : ∀ w, (Instr.index 130 (.agg #[.int .i64 (k : Int), .int .i64 (A : Int), .int .i64 (m : Int), .int .i64 (C : Int)]) (.int .i64 0)).run Try.prog w = .ok (.agg #[.int .i64 (k : Int), .int .i64 (A : Int)]) w := fun _ => by kernel_rfl
              have ix1 : ∀ w, (Instr.index 130 (.agg #[.int .i64 (k : Int), .int .i64 (A : Int), .int .i64 (m : Int), .int .i64 (C : Int)]) (.int .i64 1)).run Try.prog w = .ok (.agg #[.int .i64 (m : Int), .int .i64 (C : Int)]) w := fun _ => by kernel_rfl
              have hArN : R7 w7.heap.size = none := HD7.out.ev.inv.none_of_ge (Nat.le_refl _)
              have hPut : Ev R7 w7 (R7.put w7.heap.size (.inl (.cells #[.int .i64 (k : Int), .int .i64 (A : Int), .int .i64 (m : Int), .int .i64 (C : Int)] 130 (0, 0)))) (w7.alloc (.cells #[.int .i64 (k : Int), .int .i64 (A : Int), .int .i64 (m : Int), .int .i64 (C : Int)] 130)) := ((Ev.refl HD7.out.ev.inv).alloc (.cells #[.int .i64 (k : Int), .int .i64 (A : Int), .int .i64 (m : Int), .int .i64 (C : Int)] 130)).put _ (Nat.le_refl _) hArN (heap_alloc_new _ _)
              have HD9 := Lib.hid (HD7.out.step hPut)
              have hAr0 : (R7.put w7.heap.size (.inl (.cells #[.int .i64 (k : Int), .int .i64 (A : Int), .int .i64 (m : Int), .int .i64 (C : Int)] 130 (0, 0)))) w7.heap.size = some (.inl (.cells #[.int .i64 (k : Int), .int .i64 (A : Int), .int .i64 (m : Int), .int .i64 (C : Int)] 130 (0, 0))) := Reg.put_same _ _ _
              obtain ⟨R8, hR8⟩ : ∃ x, R7.put w7.heap.size (.inl (.cells #[.int .i64 (k : Int), .int .i64 (A : Int), .int .i64 (m : Int), .int .i64 (C : Int)] 130 (0, 0))) = x := ⟨_, rfl⟩
              obtain ⟨w8, hw8⟩ : ∃ x, w7.alloc (.cells #[.int .i64 (k : Int), .int .i64 (A : Int), .int .i64 (m : Int), .int .i64 (C : Int)] 130) = x := ⟨_, rfl⟩
              obtain ⟨ar, har⟩ : ∃ x, w7.heap.size = x := ⟨_, rfl⟩
              rw [hR8, har] at hAr0
              rw [hR8, hw8] at HD9
              have HAr := Lib.hid hAr0
              have a0 : w8.cell? ⟨ar, 0, none⟩ = some (.int .i64 (k : Int)) := by rw [← hw8, ← har]; simp
              go_upto_region 8 with fail
              try rw [hw8]
              try rw [har]
              have hblk : w8.heap[ar]? = some (.cells #[.int .i64 (k : Int), .int .i64 (A : Int), .int .i64 (m : Int), .int .i64 (C : Int)] 130) := HD9.out.ev.inv _ _ hAr0
              have a0 := cells_at hblk 0
              have a1 := cells_at hblk 1
              have a2 := cells_at hblk 2
              have a3 := cells_at hblk 3
              simp at a0 a1 a2 a3
              have hN0 : 0 < n := by omega
              clear hAr0 hPut hArN hblk HD7 HD8 hR8 hw8 har
              go_wp2_with fail
              go_loopg [80] 2 (fun g v80 wr => ∃ (i : Nat) (R' : Reg) (X : List Nat), i ≤ 2 ∧ 2 - i ≤ g ∧ DraftAt R w R' wr b p X ∧ R' ar = some (.inl (.cells #[.int .i64 (k : Int), .int .i64 (A : Int), .int .i64 (m : Int), .int .i64 (C : Int)] 130 (0, 0))) ∧ X.length = n ∧ ((i = 0 ∧ v80 = .int .i64 0 ∧ X = s) ∨ (i = 1 ∧ v80 = .int .i64 1 ∧ X = s.set I1 S1) ∨ (i = 2 ∧ v80 = .int .i64 2 ∧ X = (s.set I1 S1).set I2 S2)))
              case atStart => exact ⟨0, R8, s, by omega, by omega, HD9.out, HAr.out, HNe.out, by simp⟩
              case round =>
                clear a0 a1 a2 a3 HD9 HAr
                obtain ⟨i, R', X, hi, hg, hdr, har, hxn, hst⟩ := hrel
                rcases hst with ⟨rfl, rfl, hX⟩ | ⟨rfl, rfl, hX⟩ | ⟨rfl, rfl, hX⟩
                · have HX := Lib.hid hX
                  have hW := hdr.step ((Ev.refl hdr.ev.inv).alloc (.cells #[.int .i64 (k : Int), .int .i64 (A : Int)] 70))
                  have hnb : R' wr.heap.size = none := hdr.ev.inv.none_of_ge (Nat.le_refl _)
                  obtain ⟨g, cap, hal0⟩ := hdr.along hxn hN0
                  have hgl : g < wr.heap.size := lt_of_cell ((hal0 _ _ (Ev.refl hdr.ev.inv)).2.2.1 I1 x1).1
                  have hal := fun R2 w2 (he : Ev R' (wr.alloc (.cells #[.int .i64 (k : Int), .int .i64 (A : Int)] 70)) R2 w2) => hal0 R2 w2 (((Ev.refl hdr.ev.inv).alloc (.cells #[.int .i64 (k : Int), .int .i64 (A : Int)] 70)).trans he)
                  have hC := fun R2 w2 (he : Ev R' (wr.alloc (.cells #[.int .i64 (k : Int), .int .i64 (A : Int)] 70)) R2 w2) => (show w2.cell? ⟨wr.heap.size, 0, none⟩ = some (.int .i64 (k : Int)) ∧ (w2.setCell ⟨g, I1, none⟩ (.int .i64 (S1 : Int))).cell? ⟨b, 1, none⟩ = some (.slice (some ⟨g, 0, none⟩) n cap) ∧ (w2.setCell ⟨g, I1, none⟩ (.int .i64 (S1 : Int))).cell? ⟨wr.heap.size, 0, none⟩ = some (.int .i64 (k : Int)) from by
                    have h := (he.block wr.heap.size (by simp) hnb).trans (heap_alloc_new _ _)
                    have h2 : (w2.setCell ⟨g, I1, none⟩ (.int .i64 (S1 : Int))).heap[wr.heap.size]? = _ := (Below.heap_setCell _ _ _ _ (by show wr.heap.size ≠ g; omega)).trans h
                    exact ⟨cells_at h 0, ((hal _ _ he).2.2.2 I1 S1 x1).2, cells_at h2 0⟩)
                  have hx2 := Lib.hid hxn
                  go_upto_region 11 with fail
                  obtain ⟨wy, hwy⟩ : ∃ x, wr.alloc (.cells #[.int .i64 (k : Int), .int .i64 (A : Int)] 70) = x := ⟨_, rfl⟩
                  obtain ⟨yb, hyb⟩ : ∃ x, wr.heap.size = x := ⟨_, rfl⟩
                  rw [hwy] at hC hW hal ⊢
                  rw [hyb] at hC ⊢
                  have HC := Lib.hid hC
                  have HAl := Lib.hid hal
                  have HW := Lib.hid hW
                  have HEd := Lib.hid ((Ev.refl hW.ev.inv).drew)
                  have HAr := Lib.hid har
                  have hir : (I1 : Int) < (n : Int) := by omega
                  clear hC hal hal0 hW hnb hdr hX har hwy hyb hxn hgl
                  obtain ⟨c0, c1, hcc, _⟩ := HAl.out _ _ HEd.out
                  obtain ⟨k1, f1⟩ := hcc I1 x1
                  obtain ⟨yc0, yd1, yd0⟩ := HC.out _ _ HEd.out
                  clear hcc
                  go_region_held3 (fun w' => w'.cell? ⟨b, 1, none⟩ = some (.slice (some ⟨g, 0, none⟩) n cap) ∧ w'.cell? ⟨yb, 0, none⟩ = some (.int .i64 (k : Int))) (first | exact ⟨c1, yc0⟩ | exact ⟨yd1, yd0⟩) (first | (go_at_call 86; refine (RR1.out _ _ (HW.out.ev.trans HEd.out)).mono ?_; rintro z wa ⟨rfl, Ra, hea⟩; have HEd := Lib.hid (HEd.out.trans hea); clear hea; obtain ⟨c0, c1, hcc, _⟩ := HAl.out _ _ HEd.out; obtain ⟨k1, f1⟩ := hcc I1 x1; obtain ⟨yc0, yd1, yd0⟩ := HC.out _ _ HEd.out; clear hcc) | (go_at_call 55; refine (HG1.out _ _ (HW.out.ev.trans HEd.out)).mono ?_; rintro z w' ⟨rfl, rfl⟩))
                  all_goals (go_wp2_with fail)
                  all_goals go_roundg (2 - (0 + 1))
                  all_goals first | (have hgo := hg; omega) | exact ⟨0 + 1, _, _, by omega, by omega, ((HAl.out _ _ HEd.out).2.2.2 I1 S1 x1).1, HEd.out.reg _ _ HAr.out, by rw [List.length_set]; exact hx2.out, by rw [HX.out]; simp⟩
                · have HX := Lib.hid hX
                  have hW := hdr.step ((Ev.refl hdr.ev.inv).alloc (.cells #[.int .i64 (m : Int), .int .i64 (C : Int)] 70))
                  have hnb : R' wr.heap.size = none := hdr.ev.inv.none_of_ge (Nat.le_refl _)
                  obtain ⟨g, cap, hal0⟩ := hdr.along hxn hN0
                  have hgl : g < wr.heap.size := lt_of_cell ((hal0 _ _ (Ev.refl hdr.ev.inv)).2.2.1 I2 x2).1
                  have hal := fun R2 w2 (he : Ev R' (wr.alloc (.cells #[.int .i64 (m : Int), .int .i64 (C : Int)] 70)) R2 w2) => hal0 R2 w2 (((Ev.refl hdr.ev.inv).alloc (.cells #[.int .i64 (m : Int), .int .i64 (C : Int)] 70)).trans he)
                  have hC := fun R2 w2 (he : Ev R' (wr.alloc (.cells #[.int .i64 (m : Int), .int .i64 (C : Int)] 70)) R2 w2) => (show w2.cell? ⟨wr.heap.size, 0, none⟩ = some (.int .i64 (m : Int)) ∧ (w2.setCell ⟨g, I2, none⟩ (.int .i64 (S2 : Int))).cell? ⟨b, 1, none⟩ = some (.slice (some ⟨g, 0, none⟩) n cap) ∧ (w2.setCell ⟨g, I2, none⟩ (.int .i64 (S2 : Int))).cell? ⟨wr.heap.size, 0, none⟩ = some (.int .i64 (m : Int)) from by
                    have h := (he.block wr.heap.size (by simp) hnb).trans (heap_alloc_new _ _)
                    have h2 : (w2.setCell ⟨g, I2, none⟩ (.int .i64 (S2 : Int))).heap[wr.heap.size]? = _ := (Below.heap_setCell _ _ _ _ (by show wr.heap.size ≠ g; omega)).trans h
                    exact ⟨cells_at h 0, ((hal _ _ he).2.2.2 I2 S2 x2).2, cells_at h2 0⟩)
                  have hx2 := Lib.hid hxn
                  go_upto_region 11 with fail
                  obtain ⟨wy, hwy⟩ : ∃ x, wr.alloc (.cells #[.int .i64 (m : Int), .int .i64 (C : Int)] 70) = x := ⟨_, rfl⟩
                  obtain ⟨yb, hyb⟩ : ∃ x, wr.heap.size = x := ⟨_, rfl⟩
                  rw [hwy] at hC hW hal ⊢
                  rw [hyb] at hC ⊢
                  have HC := Lib.hid hC
                  have HAl := Lib.hid hal
                  have HW := Lib.hid hW
                  have HEd := Lib.hid ((Ev.refl hW.ev.inv).drew)
                  have HAr := Lib.hid har
                  have hir : (I2 : Int) < (n : Int) := by omega
                  clear hC hal hal0 hW hnb hdr hX har hwy hyb hxn hgl
                  obtain ⟨c0, c1, hcc, _⟩ := HAl.out _ _ HEd.out
                  obtain ⟨k1, f1⟩ := hcc I2 x2
                  obtain ⟨yc0, yd1, yd0⟩ := HC.out _ _ HEd.out
                  clear hcc
                  go_region_held3 (fun w' => w'.cell? ⟨b, 1, none⟩ = some (.slice (some ⟨g, 0, none⟩) n cap) ∧ w'.cell? ⟨yb, 0, none⟩ = some (.int .i64 (m : Int))) (first | exact ⟨c1, yc0⟩ | exact ⟨yd1, yd0⟩) (first | (go_at_call 86; refine (RR2.out _ _ (HW.out.ev.trans HEd.out)).mono ?_; rintro z wa ⟨rfl, Ra, hea⟩; have HEd := Lib.hid (HEd.out.trans hea); clear hea; obtain ⟨c0, c1, hcc, _⟩ := HAl.out _ _ HEd.out; obtain ⟨k1, f1⟩ := hcc I2 x2; obtain ⟨yc0, yd1, yd0⟩ := HC.out _ _ HEd.out; clear hcc) | (go_at_call 55; refine (HG2.out _ _ (HW.out.ev.trans HEd.out)).mono ?_; rintro z w' ⟨rfl, rfl⟩))
                  all_goals (go_wp2_with fail)
                  all_goals go_roundg (2 - (1 + 1))
                  all_goals first | (have hgo := hg; omega) | exact ⟨1 + 1, _, _, by omega, by omega, ((HAl.out _ _ HEd.out).2.2.2 I2 S2 x2).1, HEd.out.reg _ _ HAr.out, by rw [List.length_set]; exact hx2.out, by rw [HX.out]; simp⟩
                · have HX := Lib.hid hX
                  have HDr := Lib.hid hdr
                  have HAr := Lib.hid har
                  have HXn := Lib.hid hxn
                  have hblk : wr.heap[ar]? = some (.cells #[.int .i64 (k : Int), .int .i64 (A : Int), .int .i64 (m : Int), .int .i64 (C : Int)] 130) := hdr.ev.inv _ _ har
                  have a0 := cells_at hblk 0
                  have a1 := cells_at hblk 1
                  have a2 := cells_at hblk 2
                  have a3 := cells_at hblk 3
                  simp at a0 a1 a2 a3
                  obtain ⟨wz, hwz⟩ : ∃ wz, wz = wr := ⟨_, rfl⟩
                  subst hwz
                  obtain ⟨Rz, hRz⟩ : ∃ x, x = R' := ⟨_, rfl⟩
                  subst hRz
                  clear hX hdr har hxn hblk
                  go_wp2_with fail
                  go_loopg [98] 2 (fun g v98 wr => ∃ (i : Nat) (R' : Reg) (Y : List Nat), i ≤ 2 ∧ 2 - i ≤ g ∧ DraftAt R w R' wr b p Y ∧ Y.length = n ∧ ((i = 0 ∧ v98 = .int .i64 0 ∧ Y = X) ∨ (i = 1 ∧ v98 = .int .i64 1 ∧ Y = behindL (X.set k k) k A) ∨ (i = 2 ∧ v98 = .int .i64 2 ∧ Y = behindL ((behindL (X.set k k) k A).set m m) m C)))
                  case atStart => exact ⟨0, Rz, X, by omega, by omega, HDr.out, HXn.out, by simp⟩
                  case round =>
                    clear a0 a1 a2 a3 HDr
                    obtain ⟨i, R', Y, hi, hg, hdr, hyn, hst⟩ := hrel
                    rcases hst with ⟨rfl, rfl, hY⟩ | ⟨rfl, rfl, hY⟩ | ⟨rfl, rfl, hY⟩
                    · have HY := Lib.hid hY
                      have hW := hdr.step ((Ev.refl hdr.ev.inv).alloc (.cells #[.int .i64 (k : Int), .int .i64 (A : Int)] 70))
                      obtain ⟨g, cap, hal⟩ := hdr.along hyn hN0
                      have hgl : g < wr.heap.size := lt_of_cell ((hal _ _ (Ev.refl hdr.ev.inv)).2.2.1 k hk).1
                      have hb : (wr.alloc (.cells #[.int .i64 (k : Int), .int .i64 (A : Int)] 70)).heap[wr.heap.size]? = some (.cells #[.int .i64 (k : Int), .int .i64 (A : Int)] 70 (0, 0)) := heap_alloc_new _ _
                      obtain ⟨c0, c1, hcc, hput⟩ := hal _ _ ((Ev.refl hdr.ev.inv).alloc (.cells #[.int .i64 (k : Int), .int .i64 (A : Int)] 70))
                      obtain ⟨k1, f1⟩ := hcc k hk
                      have hd9 := (hput k k hk).1
                      go_upto_region 16 with fail
                      obtain ⟨wy, hwy⟩ : ∃ x, wr.alloc (.cells #[.int .i64 (k : Int), .int .i64 (A : Int)] 70) = x := ⟨_, rfl⟩
                      obtain ⟨yb, hyb⟩ : ∃ x, wr.heap.size = x := ⟨_, rfl⟩
                      rw [hwy] at hW hb c0 c1 k1 f1 hd9 ⊢
                      rw [hyb] at hb hgl ⊢
                      have yc0 := cells_at hb 0
                      have yc1 := cells_at hb 1
                      have hb9 : (wy.setCell ⟨g, k, none⟩ (.int .i64 (k : Int))).drew.heap[yb]? = some (.cells #[.int .i64 (k : Int), .int .i64 (A : Int)] 70 (0, 0)) := (Below.heap_setCell _ _ _ _ (by show yb ≠ g; omega)).trans hb
                      simp at yc0 yc1
                      have HD9 := Lib.hid hd9.drew
                      have HB9 := Lib.hid hb9
                      have hyr : (k : Int) < (n : Int) := by omega
                      have hx2 := Lib.hid hyn
                      have hyl := Lib.hid (show (Y.set k k).length = n by rw [List.length_set]; exact hyn)
                      clear hal hput hcc hW hb hdr hY hyn hgl hwy hyb hd9 hb9
                      go_region
                      go_upto_region 17 with fail
                      obtain ⟨w9, hw9⟩ : ∃ x, (wy.setCell ⟨g, k, none⟩ (.int .i64 (k : Int))).drew = x := ⟨_, rfl⟩
                      rw [hw9] at HD9 HB9 ⊢
                      have yd0 := cells_at HB9.out 0
                      have yd1 := cells_at HB9.out 1
                      simp at yd0 yd1
                      have HBh := Lib.hid (gbehind_any HD9.out (d := k) (t := A) (by have := hyl.out; omega) (by rw [hyl.out]; exact hk) (by rw [hyl.out]; exact z3))
                      clear hw9 c0 c1 k1 f1 yc0 yc1 HB9
                      go_wp2_with fail
                      refine HBh.out.mono ?_
                      rintro e wb ⟨rfl, hdb⟩
                      have HDb := Lib.hid hdb
                      clear hdb HBh yd0 yd1
                      go_wp2_with fail
                      go_roundg (2 - (0 + 1))
                      case measure => omega
                      case rel => exact ⟨0 + 1, _, _, by omega, by omega, HDb.out, by rw [behindL_length]; exact hyl.out, by rw [HY.out]; simp⟩
                    · have HY := Lib.hid hY
                      have hW := hdr.step ((Ev.refl hdr.ev.inv).alloc (.cells #[.int .i64 (m : Int), .int .i64 (C : Int)] 70))
                      obtain ⟨g, cap, hal⟩ := hdr.along hyn hN0
                      have hgl : g < wr.heap.size := lt_of_cell ((hal _ _ (Ev.refl hdr.ev.inv)).2.2.1 m hmk).1
                      have hb : (wr.alloc (.cells #[.int .i64 (m : Int), .int .i64 (C : Int)] 70)).heap[wr.heap.size]? = some (.cells #[.int .i64 (m : Int), .int .i64 (C : Int)] 70 (0, 0)) := heap_alloc_new _ _
                      obtain ⟨c0, c1, hcc, hput⟩ := hal _ _ ((Ev.refl hdr.ev.inv).alloc (.cells #[.int .i64 (m : Int), .int .i64 (C : Int)] 70))
                      obtain ⟨k1, f1⟩ := hcc m hmk
                      have hd9 := (hput m m hmk).1
                      go_upto_region 16 with fail
                      obtain ⟨wy, hwy⟩ : ∃ x, wr.alloc (.cells #[.int .i64 (m : Int), .int .i64 (C : Int)] 70) = x := ⟨_, rfl⟩
                      obtain ⟨yb, hyb⟩ : ∃ x, wr.heap.size = x := ⟨_, rfl⟩
                      rw [hwy] at hW hb c0 c1 k1 f1 hd9 ⊢
                      rw [hyb] at hb hgl ⊢
                      have yc0 := cells_at hb 0
                      have yc1 := cells_at hb 1
                      have hb9 : (wy.setCell ⟨g, m, none⟩ (.int .i64 (m : Int))).drew.heap[yb]? = some (.cells #[.int .i64 (m : Int), .int .i64 (C : Int)] 70 (0, 0)) := (Below.heap_setCell _ _ _ _ (by show yb ≠ g; omega)).trans hb
                      simp at yc0 yc1
                      have HD9 := Lib.hid hd9.drew
                      have HB9 := Lib.hid hb9
                      have hyr : (m : Int) < (n : Int) := by omega
                      have hx2 := Lib.hid hyn
                      have hyl := Lib.hid (show (Y.set m m).length = n by rw [List.length_set]; exact hyn)
                      clear hal hput hcc hW hb hdr hY hyn hgl hwy hyb hd9 hb9
                      go_region
                      go_upto_region 17 with fail
                      obtain ⟨w9, hw9⟩ : ∃ x, (wy.setCell ⟨g, m, none⟩ (.int .i64 (m : Int))).drew = x := ⟨_, rfl⟩
                      rw [hw9] at HD9 HB9 ⊢
                      have yd0 := cells_at HB9.out 0
                      have yd1 := cells_at HB9.out 1
                      simp at yd0 yd1
                      have HBh := Lib.hid (gbehind_any HD9.out (d := m) (t := C) (by have := hyl.out; omega) (by rw [hyl.out]; exact hmk) (by rw [hyl.out]; exact y3))
                      clear hw9 c0 c1 k1 f1 yc0 yc1 HB9
                      go_wp2_with fail
                      refine HBh.out.mono ?_
                      rintro e wb ⟨rfl, hdb⟩
                      have HDb := Lib.hid hdb
                      clear hdb HBh yd0 yd1
                      go_wp2_with fail
                      go_roundg (2 - (1 + 1))
                      case measure => omega
                      case rel => exact ⟨1 + 1, _, _, by omega, by omega, HDb.out, by rw [behindL_length]; exact hyl.out, by rw [HY.out]; simp⟩
                    · have HY := Lib.hid hY
                      have HDn := Lib.hid (gdone_any hdr root lone (hdr.ev.map HP.out) (by omega))
                      clear hdr hY
                      go_wp2_with fail
                      refine HDn.out.mono ?_
                      rintro e w9 hpo
                      obtain ⟨q, c, rfl⟩ := hpo.two
                      have HPo := Lib.hid hpo
                      clear hpo HDn
                      go_wp2_with fail
                      go_ret2
                      exact Or.inr (Or.inr ⟨H1.out, HFb2.out, by rw [HFl.out, ← HX.out, ← HY.out]; exact HPo.out⟩)
end Go.Proofs.Ytlbhmonpfchocaa
