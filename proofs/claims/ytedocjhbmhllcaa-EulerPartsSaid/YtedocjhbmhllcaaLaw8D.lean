/- parquetrylaw08.EulerParts, the walk: it answers true. Conditions: the bytes lie in memory. -/
import Derived.Test.YtedocjhbmhllcaaLaw8B
import Derived.Test.YtedocjhbmhllcaaArgs
namespace Go.Proofs.Ytedocjhbmhllcaa
open Go.RowKit
set_option linter.unusedVariables false

def sumF (g : PartR → Int) (f : Nat → PartR) : Nat → Int
  | 0 => 0
  | k + 1 => sumF g f k + g (f k)
theorem sumF_succ (g : PartR → Int) (f : Nat → PartR) (k : Nat) : sumF g f (k + 1) = sumF g f k + g (f k) := rfl
theorem sumF_bound {g : PartR → Int} {f : Nat → PartR} {B : Int} (h : ∀ k, 0 ≤ g (f k) ∧ g (f k) ≤ B) : ∀ k : Nat, 0 ≤ sumF g f k ∧ sumF g f k ≤ B * (k : Int)
  | 0 => ⟨Int.le_refl _, by simp [sumF]⟩
  | k + 1 => by
    have ih := sumF_bound h k
    have h1 := h k
    rw [sumF_succ]
    have e : B * ((k + 1 : Nat) : Int) = B * (k : Int) + B := by rw [Int.natCast_succ, Int.mul_add, Int.mul_one]
    omega
theorem sumF_sumN {g : PartR → Int} {s : List Nat} {F : Nat → Nat} (h : ∀ k, g (partF s k) = (F k : Nat)) : ∀ k, k ≤ partsN s → sumF g (partsF s) k = (sumN F k : Nat)
  | 0, _ => rfl
  | k + 1, hk => by
    rw [sumF_succ, sumF_sumN h k (by omega)]
    unfold partsF
    rw [if_pos (by omega), h]
    show _ = ((sumN F k + F k : Nat) : Int)
    omega
theorem sumF_lone {g : PartR → Int} {s : List Nat} {c : Int} (h : g loneR = c) : ∀ l : Nat, sumF g (partsF s) (partsN s + l) = sumF g (partsF s) (partsN s) + c * (l : Int)
  | 0 => by simp
  | l + 1 => by
    rw [← Nat.add_assoc, sumF_succ, sumF_lone h l]
    unfold partsF
    rw [if_neg (by omega), h]
    have e : c * ((l + 1 : Nat) : Int) = c * (l : Int) + c := by rw [Int.natCast_succ, Int.mul_add, Int.mul_one]
    omega
theorem parts_sums {s : List Nat} (hs : IsPerm s) (he : s.length % 2 = 0) (l : Nat) : sumF PartR.v (partsF s) (partsN s + l) = (sizesL s).length + (l : Int) ∧
    sumF PartR.e (partsF s) (partsN s + l) = ((s.length / 2 : Nat) : Int) ∧ sumF PartR.b (partsF s) (partsN s + l) = (sizesL (phiL s)).length + (l : Int) := by
  have hp := phiL_perm hs he
  have hN := fun x (hx : x < s.length) => partsL_lt hs he hx
  refine ⟨?_, ?_, ?_⟩
  · rw [sumF_lone (c := 1) rfl, sumF_sumN (F := fun k => vcnt s (partsL s) (k : Int) s.length) (fun k => rfl) _ (Nat.le_refl _), sum_vcnt hs hN (Nat.le_refl _), ← sizesGo_all, sizesGo_length hs _ (Nat.le_refl _)]
    omega
  · rw [sumF_lone (c := 0) rfl, sumF_sumN (F := fun k => ecnt (partsL s) (k : Int) s.length) (fun k => rfl) _ (Nat.le_refl _), sum_ecnt hN (Nat.le_refl _)]
    omega
  · rw [sumF_lone (c := 1) rfl, sumF_sumN (F := fun k => vcnt (phiL s) (partsL s) (k : Int) s.length) (fun k => rfl) _ (Nat.le_refl _)]
    have := sum_vcnt hp (N := partsL s) (C := partsN s) (fun x hx => hN x (by rw [phiL_length] at hx; exact hx)) (j := s.length) (by rw [phiL_length]; exact Nat.le_refl _)
    rw [this, ← sizesGo_all, sizesGo_length hp _ (Nat.le_refl _), phiL_length]
    omega
theorem partsF_fields {s : List Nat} (hs : IsPerm s) (he : s.length % 2 = 0) (hn : s.length ≤ 131073) (k : Nat) :
    (0 ≤ (partsF s k).v ∧ (partsF s k).v ≤ 131073) ∧ (0 ≤ (partsF s k).e ∧ (partsF s k).e ≤ 131073) ∧ (0 ≤ (partsF s k).b ∧ (partsF s k).b ≤ 131073) ∧ (0 ≤ (partsF s k).g ∧ (partsF s k).g ≤ 65538) ∧
    (partsF s k).v - (partsF s k).e + (partsF s k).b = 2 - 2 * (partsF s k).g := by
  have hg := partsF_g hs he hn k
  refine ⟨?_, ?_, ?_, hg, ?_⟩
  · unfold partsF
    split
    · have := vcnt_le s (partsL s) (k : Int) s.length
      show 0 ≤ ((vcnt s (partsL s) (k : Int) s.length : Nat) : Int) ∧ ((vcnt s (partsL s) (k : Int) s.length : Nat) : Int) ≤ _
      omega
    · exact ⟨by decide, by decide⟩
  · unfold partsF
    split
    · have := ecnt_le (partsL s) (k : Int) s.length
      show 0 ≤ ((ecnt (partsL s) (k : Int) s.length : Nat) : Int) ∧ ((ecnt (partsL s) (k : Int) s.length : Nat) : Int) ≤ _
      omega
    · exact ⟨by decide, by decide⟩
  · unfold partsF
    split
    · have := vcnt_le (phiL s) (partsL s) (k : Int) s.length
      show 0 ≤ ((vcnt (phiL s) (partsL s) (k : Int) s.length : Nat) : Int) ∧ ((vcnt (phiL s) (partsL s) (k : Int) s.length : Nat) : Int) ≤ _
      omega
    · exact ⟨by decide, by decide⟩
  · unfold partsF
    split
    · rename_i h
      exact (genOf_euler hs he h).2
    · decide

set_option maxRecDepth 100000 in
set_option maxHeartbeats 8000000 in
theorem eulerParts_walk (w : World) (n ln : Nat) (hn : n ≤ 255) (hl : ln ≤ 255) (v : Value) (bs : List Nat) (hv : FreeB noReg w v bs) :
    Calls Try.prog 10 #[.int .u8 (n : Int), v, .int .u8 (ln : Int)] w (RetTrue noReg w) := by
  have HA := Lib.hid (awake8_any noReg w (Inv.noReg w))
  have hnot := not_run
  have HV := Lib.hid hv
  have hS := mixL_perm (2 * (n % 12)) bs
  have hSl := mixL_length (2 * (n % 12)) bs
  have HM := Lib.hid (fun R w' (hI : Inv R w') (hv : FreeB R w' v bs) => made8_any R w' hI n ln hn hl v bs hv)
  obtain ⟨S, hSe⟩ : ∃ S, mixL (2 * (n % 12)) bs = S := ⟨_, rfl⟩
  obtain ⟨r, hre⟩ : ∃ r, anyRoot (n % 12) 0 = r := ⟨_, rfl⟩
  obtain ⟨lo, hlo⟩ : ∃ lo, ln % 4 = lo := ⟨_, rfl⟩
  have hlo5 : lo ≤ 4 := by omega
  obtain ⟨m, hm⟩ : ∃ m, 2 * (n % 12) = m := ⟨_, rfl⟩
  have hm20 : m ≤ 22 := by omega
  have hev : m % 2 = 0 := by omega
  rw [hSe, hre, hlo] at HM
  rw [hSe, hm] at hSl
  rw [hSe] at hS
  have HS := Lib.hid hS
  have HSL := Lib.hid hSl
  obtain ⟨a0, c0, rfl, _⟩ := hv
  clear hSe hre hlo hm
  obtain ⟨C, hC⟩ : ∃ C, partsN S + lo = C := ⟨_, rfl⟩
  rw [← hSl] at hev hm20
  have hpn := partsN_le hS hev
  have hC25 : C ≤ 30 := by omega
  have K1 : Hid (∀ R w p, Inv R w → MapAt R p S r lo → Calls Try.prog 55 #[p] w (RetParts R w C (partsF S))) := Lib.hid (fun R w p hI hp => by have := eparts_any R w hI p S r lo hp; rwa [hC] at this)
  have K2 : Hid (∀ R w p, Inv R w → MapAt R p S r lo → Calls Try.prog 56 #[p] w (RetOwn R w (partsL S))) := Lib.hid (fun R w p hI hp => enames_any R w hI p S r lo hp)
  have K3 := Lib.hid (fun R w p (hI : Inv R w) (hp : MapAt R p S r lo) => vertices_any R w hI p S r lo hp)
  have K4 := Lib.hid (fun R w p (hI : Inv R w) (hp : MapAt R p S r lo) => edges_any R w hI p S r lo hp)
  have K5 := Lib.hid (fun R w p (hI : Inv R w) (hp : MapAt R p S r lo) => borders_any R w hI p S r lo hp)
  have K6 := Lib.hid (fun R w p (hI : Inv R w) (hp : MapAt R p S r lo) => lone_any R w hI p S r lo hp)
  have D1 : Hid (∀ R w a c, Inv R w → FreeI R w (.slice a S.length c) (toI S) → Calls Try.prog 50 #[refV (.slice a S.length c) r lo] w (RetRefs R w C (partsF S))) := Lib.hid (fun R w a c hI hv => by have := r8parts_any R w hI _ S r lo hv hS (by omega) hev (by omega); rwa [hC] at this)
  have D2 : Hid (∀ R w a c, Inv R w → FreeI R w (.slice a S.length c) (toI S) → Calls Try.prog 57 #[refV (.slice a S.length c) r lo] w (RetOwn R w (partsL S))) := Lib.hid (fun R w a c hI hv => r8names_any R w hI _ S r lo hv hS (by omega) hev)
  have HPS : Hid (sumF PartR.v (partsF S) C = (sizesL S).length + (lo : Int) ∧ sumF PartR.e (partsF S) C = ((S.length / 2 : Nat) : Int) ∧ sumF PartR.b (partsF S) C = (sizesL (phiL S)).length + (lo : Int)) := Lib.hid (by rw [← hC]; exact parts_sums hS hev lo)
  have hfl := partsF_fields hS hev (by omega)
  have HFl := Lib.hid hfl
  have HB1 := Lib.hid (sumF_bound (g := PartR.v) (f := partsF S) (B := 131073) (fun k => (hfl k).1))
  have HB2 := Lib.hid (sumF_bound (g := PartR.e) (f := partsF S) (B := 131073) (fun k => (hfl k).2.1))
  have HB3 := Lib.hid (sumF_bound (g := PartR.b) (f := partsF S) (B := 131073) (fun k => (hfl k).2.2.1))
  have HPLl := Lib.hid (show (partsL S).length ≤ 4194304 by rw [partsL_length hS hev]; omega)
  have hfb := sizesL_le (phiL_perm hS hev)
  rw [phiL_length] at hfb
  clear hS hSl hC hpn hfl
  unfold refV at D1 D2
  go_enter Try.func10, Try.ntmps10
  go_wp2_with fail
  refine HA.out.mono ?_
  rintro e w1 ⟨rfl, R1, he1⟩
  have HE1 := Lib.hid he1
  clear he1
  go_wp2_with fail
  refine (HM.out R1 w1 HE1.out.inv (HV.out.ev HE1.out)).mono ?_
  rintro e w2 ⟨p, a1, c1, R2, rfl, he2, hp2, hf2⟩
  unfold refV
  have hnone : R2 w2.heap.size = none := he2.inv.none_of_ge (Nat.le_refl _)
  have hI3 := he2.inv.alloc (.cells #[.slice a1 S.length c1, .int .i64 r, .int .i64 (lo : Int)] 27)
  have hf3 := hf2.ev ((Ev.refl he2.inv).alloc (.cells #[.slice a1 S.length c1, .int .i64 r, .int .i64 (lo : Int)] 27))
  have HE2 := Lib.hid (HE1.out.trans he2)
  have HP3 := Lib.hid hp2
  have HX := Lib.hid (fun R' w' (h : Ev R2 (w2.alloc (.cells #[.slice a1 S.length c1, .int .i64 r, .int .i64 (lo : Int)] 27)) R' w') => h.ref3 hnone)
  have HF3 := Lib.hid hf3
  have HI3 := Lib.hid hI3
  clear he2 hp2 hf2 hI3 hnone hf3
  go_wp2_with fail
  obtain ⟨w3, hw3⟩ : ∃ w3, w3 = w2.alloc (.cells #[.slice a1 S.length c1, .int .i64 r, .int .i64 (lo : Int)] 27) := ⟨_, rfl⟩
  have HE3 : Hid (Ev noReg w R2 w3) := by rw [hw3]; exact HE2.out.alloc _
  rw [← hw3] at HX HF3 HI3 ⊢
  clear hw3 HE2
  have HEd := Lib.hid ((Ev.refl HI3.out).drew)
  obtain ⟨x0, x1, x2⟩ := HX.out _ _ HEd.out
  go_cut [9, 10] (fun s9 s10 wx => ∃ (al ar : Option Addr) (cl cr : Nat) (Rx : Reg), s9 = .slice al C cl ∧ s10 = .slice ar C cr ∧ Ev R2 w3 Rx wx ∧ OwnV Rx 0 60 5 wx (.slice al C cl) C (flatF (partsF S) C) ∧ OwnV Rx 0 61 5 wx (.slice ar C cr) C (flatF (partsF S) C))
  case first =>
    go_region_held3 (fun w' => w'.cell? ⟨w2.heap.size, 0, none⟩ = some (.slice a1 S.length c1) ∧ w'.cell? ⟨w2.heap.size, 1, none⟩ = some (.int .i64 r) ∧ w'.cell? ⟨w2.heap.size, 2, none⟩ = some (.int .i64 lo)) (exact ⟨x0, x1, x2⟩) (first | (go_at_call 55; refine (K1.out _ _ _ HEd.out.inv (HEd.out.map HP3.out)).mono ?_; rintro e w' ⟨vl, R', rfl, he, al, cl, rfl, hol⟩; have HOl := Lib.hid hol; have HEd := Lib.hid (HEd.out.trans he); have HEl := Lib.hid he; clear he hol; obtain ⟨x0, x1, x2⟩ := HX.out _ _ HEd.out) | (go_at_call 50; refine (D1.out _ _ _ _ HEd.out.inv (HF3.out.ev HEd.out)).mono ?_; rintro e w' ⟨vr, rfl, he, ar, cr, rfl, hor⟩; have HOl := Lib.hid (HOl.out.ev he); have HOr := Lib.hid hor; have HEd := Lib.hid (HEd.out.trans he); clear he hor; obtain ⟨x0, x1, x2⟩ := HX.out _ _ HEd.out))
    all_goals (go_wp2_with fail; go_meet)
    all_goals exact ⟨al, ar, cl, cr, _, rfl, rfl, HEd.out, HOl.out.mono (Nat.zero_le _), HOr.out.mono (Nat.zero_le _)⟩
  case rest =>
    obtain ⟨al, ar, cl, cr, Rx, rfl, rfl, he, hol, hor⟩ := hcut
    obtain ⟨w4, hw4⟩ : ∃ w4, w4 = wc := ⟨_, rfl⟩
    subst hw4
    have HEx := Lib.hid he
    have HOl := Lib.hid hol
    have HOr := Lib.hid hor
    have HEd := Lib.hid he.drew
    have HEc := Lib.hid ((Ev.refl he.inv).drew)
    clear he hol hor x0 x1 x2
    obtain ⟨x0, x1, x2⟩ := HX.out _ _ HEd.out
    go_wp2_with fail
    go_cut [41] (fun s41 wx => s41 = .bool false ∧ Ev Rx w4 Rx wx)
    case first =>
      have heq : ((C : Int) != (C : Int)) = false := by simp
      go_region_held3 (fun w' => w'.cell? ⟨w2.heap.size, 0, none⟩ = some (.slice a1 S.length c1) ∧ w'.cell? ⟨w2.heap.size, 1, none⟩ = some (.int .i64 r) ∧ w'.cell? ⟨w2.heap.size, 2, none⟩ = some (.int .i64 lo)) (exact ⟨x0, x1, x2⟩) (first | (go_at_call 56; refine (K2.out _ _ _ HEd.out.inv (HEd.out.map HP3.out)).mono ?_; rintro e w' ⟨v1, rfl, he, ho1⟩; obtain ⟨n1, m1, rfl, _⟩ := ho1.free.open; have HN1 := Lib.hid ho1; have HEd := Lib.hid (HEd.out.trans he); have HEc := Lib.hid (HEc.out.trans he); clear he ho1; obtain ⟨x0, x1, x2⟩ := HX.out _ _ HEd.out) | (go_at_call 57; refine (D2.out _ _ _ _ HEd.out.inv (HF3.out.ev HEd.out)).mono ?_; rintro e w' ⟨v2, rfl, he, ho2⟩; obtain ⟨n2, m2, rfl, _⟩ := ho2.free.open; have HN1 := Lib.hid (HN1.out.ev he); have HN2 := Lib.hid ho2; have HEd := Lib.hid (HEd.out.trans he); have HEc := Lib.hid (HEc.out.trans he); clear he ho2; obtain ⟨x0, x1, x2⟩ := HX.out _ _ HEd.out) | (go_at_call 31; refine (equal_any _ _ HEd.out.inv _ _ _ _ HN1.out.ints HN2.out.ints HPLl.out HPLl.out).mono ?_; rintro e w' ⟨rfl, he⟩; rw [eqL_true rfl]; have HEd := Lib.hid (HEd.out.trans he); have HEc := Lib.hid (HEc.out.trans he); clear he; obtain ⟨x0, x1, x2⟩ := HX.out _ _ HEd.out))
      all_goals (go_wp2_with fail; go_meet)
      all_goals exact ⟨rfl, HEc.out⟩
    case rest =>
      obtain ⟨rfl, he⟩ := hcut
      have HE5 := Lib.hid he
      clear he x0 x1 x2 HEd HEc
      go_wp2_with fail
      go_loopg [11, 12, 13, 44] C (fun gg v11 v12 v13 v44 wr => ∃ i : Nat, i ≤ C ∧ C - i ≤ gg ∧ v11 = .int .i64 (sumF PartR.v (partsF S) i) ∧ v12 = .int .i64 (sumF PartR.e (partsF S) i) ∧ v13 = .int .i64 (sumF PartR.b (partsF S) i) ∧ v44 = .int .i64 (i : Int) ∧ Ev Rx w4 Rx wr)
      case atStart => exact ⟨0, by omega, by omega, rfl, rfl, rfl, rfl, HE5.out⟩
      case round =>
        obtain ⟨i, hi, hg, rfl, rfl, rfl, rfl, hev⟩ := hrel
        have HEv := Lib.hid hev
        clear hev
        obtain ⟨b1, b2⟩ := HB1.out i
        obtain ⟨b3, b4⟩ := HB2.out i
        obtain ⟨b5, b6⟩ := HB3.out i
        have q1 := sumF_succ PartR.v (partsF S) i
        have q2 := sumF_succ PartR.e (partsF S) i
        have q3 := sumF_succ PartR.b (partsF S) i
        by_cases hil : i < C
        · have ho := HOl.out.ev HEv.out
          obtain ⟨gb, rfl, _, _, c0, _⟩ := ho.headAt (i := i * 5 + 0) (by rw [flatF_length]; omega)
          obtain ⟨_, e1, _, _, c1, _⟩ := ho.headAt (i := i * 5 + 1) (by rw [flatF_length]; omega)
          cases e1
          obtain ⟨_, e1, _, _, c2, _⟩ := ho.headAt (i := i * 5 + 2) (by rw [flatF_length]; omega)
          cases e1
          obtain ⟨_, e1, _, _, c3, _⟩ := ho.headAt (i := i * 5 + 3) (by rw [flatF_length]; omega)
          cases e1
          obtain ⟨_, e1, _, _, c4, _⟩ := ho.headAt (i := i * 5 + 4) (by rw [flatF_length]; omega)
          cases e1
          have ho2 := HOr.out.ev HEv.out
          obtain ⟨gr, rfl, _, _, d0, _⟩ := ho2.headAt (i := i * 5 + 0) (by rw [flatF_length]; omega)
          obtain ⟨_, e1, _, _, d1, _⟩ := ho2.headAt (i := i * 5 + 1) (by rw [flatF_length]; omega)
          cases e1
          obtain ⟨_, e1, _, _, d2, _⟩ := ho2.headAt (i := i * 5 + 2) (by rw [flatF_length]; omega)
          cases e1
          obtain ⟨_, e1, _, _, d3, _⟩ := ho2.headAt (i := i * 5 + 3) (by rw [flatF_length]; omega)
          cases e1
          obtain ⟨_, e1, _, _, d4, _⟩ := ho2.headAt (i := i * 5 + 4) (by rw [flatF_length]; omega)
          cases e1
          rw [flatF_get (by omega) hil] at c0 c1 c2 c3 c4 d0 d1 d2 d3 d4
          obtain ⟨⟨a1, a2⟩, ⟨a3, a4⟩, ⟨a5, a6⟩, ⟨a7, a8⟩, a9⟩ := HFl.out i
          obtain ⟨SV, hSV⟩ : ∃ x, sumF PartR.v (partsF S) i = x := ⟨_, rfl⟩
          obtain ⟨SE, hSE⟩ : ∃ x, sumF PartR.e (partsF S) i = x := ⟨_, rfl⟩
          obtain ⟨SB, hSB⟩ : ∃ x, sumF PartR.b (partsF S) i = x := ⟨_, rfl⟩
          rw [hSV] at b1 b2 q1 ⊢
          rw [hSE] at b3 b4 q2 ⊢
          rw [hSB] at b5 b6 q3 ⊢
          obtain ⟨p', hp'⟩ : ∃ p, partsF S i = p := ⟨_, rfl⟩
          rw [hp'] at q1 q2 q3 c0 c1 c2 c3 c4 d0 d1 d2 d3 d4 a1 a2 a3 a4 a5 a6 a7 a8 a9
          obtain ⟨pr, pv, pe, pb, pg⟩ := p'
          have Q1 : Hid (sumF PartR.v (partsF S) (i + 1) = SV + pv) := Lib.hid q1
          have Q2 : Hid (sumF PartR.e (partsF S) (i + 1) = SE + pe) := Lib.hid q2
          have Q3 : Hid (sumF PartR.b (partsF S) (i + 1) = SB + pb) := Lib.hid q3
          simp only at a1 a2 a3 a4 a5 a6 a7 a8 a9
          have k0 : wr.cell? ⟨gb, i * 5, none⟩ = some (.int .i64 pr) := c0
          have k1 : wr.cell? ⟨gb, i * 5 + 1, none⟩ = some (.int .i64 pv) := c1
          have k2 : wr.cell? ⟨gb, i * 5 + 2, none⟩ = some (.int .i64 pe) := c2
          have k3 : wr.cell? ⟨gb, i * 5 + 3, none⟩ = some (.int .i64 pb) := c3
          have k4 : wr.cell? ⟨gb, i * 5 + 4, none⟩ = some (.int .i64 pg) := c4
          have l0 : wr.cell? ⟨gr, i * 5, none⟩ = some (.int .i64 pr) := d0
          have l1 : wr.cell? ⟨gr, i * 5 + 1, none⟩ = some (.int .i64 pv) := d1
          have l2 : wr.cell? ⟨gr, i * 5 + 2, none⟩ = some (.int .i64 pe) := d2
          have l3 : wr.cell? ⟨gr, i * 5 + 3, none⟩ = some (.int .i64 pb) := d3
          have l4 : wr.cell? ⟨gr, i * 5 + 4, none⟩ = some (.int .i64 pg) := d4
          have hgr : gr < wr.heap.size := lt_of_cell l0
          have hgb : gb < wr.heap.size := lt_of_cell k0
          have A9 := Lib.hid a9
          have g7 : decide (pg < 0) = false := by rw [decide_eq_false]; omega
          have g9 : (pv - pe + pb != 2 - 2 * pg) = false := by rw [bne_eq_false_iff_eq]; exact a9
          clear c0 c1 c2 c3 c4 d0 d1 d2 d3 d4 hSV hSE hSB hp' q1 q2 q3 ho ho2 a9
          go_wp2_with fail
          go_quiet (fail)
          go_wp2_with fail
          go_quiet (fail)
          go_wp2_with fail
          go_roundg (C - (i + 1))
          case measure => omega
          case rel => exact ⟨i + 1, by omega, by omega, by rw [Q1.out], by rw [Q2.out], by rw [Q3.out], by go_num, (HEv.out.alloc _).drewN _⟩
        · obtain rfl : i = C := by omega
          have hpp := HP3.out
          have HPx := Lib.hid ((HEx.out.trans HEv.out).map HP3.out)
          obtain ⟨p1, p2, p3⟩ := HPS.out
          have J1 := Lib.hid (K3.out Rx wr p HEv.out.inv HPx.out)
          rw [p1, p2, p3]
          obtain ⟨V, hV⟩ : ∃ V : Int, (sizesL S).length + (lo : Int) = V := ⟨_, rfl⟩
          rw [hV] at J1 ⊢
          obtain ⟨F, hF⟩ : ∃ F : Nat, (sizesL (phiL S)).length = F := ⟨_, rfl⟩
          rw [hF] at hfb ⊢
          obtain ⟨E, hE⟩ : ∃ E : Nat, S.length / 2 = E := ⟨_, rfl⟩
          rw [hE]
          have J2 := Lib.hid (fun R' w' (he : Ev Rx wr R' w') => by have := K4.out R' w' p he.inv (he.map HPx.out); rwa [hE] at this)
          have J3 := Lib.hid (fun R' w' (he : Ev Rx wr R' w') => by have := K5.out R' w' p he.inv (he.map HPx.out); rwa [hF] at this)
          have J4 := Lib.hid (fun R' w' (he : Ev Rx wr R' w') => K6.out R' w' p he.inv (he.map HPx.out))
          clear hV hF hE p1 p2 p3 q1 q2 q3 hpp b1 b2 b3 b4 b5 b6
          go_wp2_with fail
          refine J1.out.mono ?_
          rintro e w6 ⟨rfl, R6, he⟩
          have HE6 := Lib.hid he
          clear he
          go_wp2_with fail
          refine (J2.out _ _ HE6.out).mono ?_
          rintro e w' ⟨rfl, rfl⟩
          go_wp2_with fail
          refine (J3.out _ _ HE6.out).mono ?_
          rintro e w7 ⟨rfl, R7, he⟩
          have HE7 := Lib.hid (HE6.out.trans he)
          clear he
          go_wp2_with fail
          refine (J4.out _ _ HE7.out).mono ?_
          rintro e w' ⟨rfl, rfl⟩
          go_wp2_with fail
          go_ret
          exact ⟨ret_bool (by simp), _, HE3.out.trans (HEx.out.trans (HEv.out.trans HE7.out))⟩

end Go.Proofs.Ytedocjhbmhllcaa
