/- parquetrylaw08.EulerIs, the walk: it answers true. Conditions: the bytes lie in memory. -/
import Derived.Test.YtedocjhbmhllcaaLaw8B
import Derived.Test.YtedocjhbmhllcaaArgs
namespace Go.Proofs.Ytedocjhbmhllcaa
open Go.RowKit
set_option linter.unusedVariables false

/-- the document's functions at a map that lies in w0, later on -/
theorem MadeMap.open8 {R : Reg} {w : World} {S : List Nat} {r : Int} {l : Nat} {e : Ending} {w' : World} (h : MadeMap R w S r (l : Int) e w') :
    ∃ p a c R', e = .returned (.tuple #[p, refV (.slice a S.length c) r l]) ∧ Ev R w R' w' ∧ MapAt R' p S r l ∧ FreeI R' w' (.slice a S.length c) (toI S) := h

set_option maxRecDepth 100000 in
set_option maxHeartbeats 8000000 in
theorem eulerIs_walk (w : World) (n ln : Nat) (hn : n ≤ 255) (hl : ln ≤ 255) (v : Value) (bs : List Nat) (hv : FreeB noReg w v bs) :
    Calls Try.prog 11 #[.int .u8 (n : Int), v, .int .u8 (ln : Int)] w (RetTrue noReg w) := by
  have HA := Lib.hid (awake8_any noReg w (Inv.noReg w))
  have hnot := not_run
  have HV := Lib.hid hv
  have hS := mixL_perm (2 * (n % 12)) bs
  have hSl := mixL_length (2 * (n % 12)) bs
  have HM := Lib.hid (fun R w' (hI : Inv R w') (hv : FreeB R w' v bs) => made8_any R w' hI n ln hn hl v bs hv)
  obtain ⟨S, hSe⟩ : ∃ S, mixL (2 * (n % 12)) bs = S := ⟨_, rfl⟩
  obtain ⟨r, hre⟩ : ∃ r, anyRoot (n % 12) 0 = r := ⟨_, rfl⟩
  obtain ⟨lo, hlo⟩ : ∃ lo, ln % 4 = lo := ⟨_, rfl⟩
  have hlo5 : lo ≤ 4 := by omega
  obtain ⟨m, hm⟩ : ∃ m, 2 * (n % 12) = m := ⟨_, rfl⟩
  have hm20 : m ≤ 22 := by omega
  have hev : m % 2 = 0 := by omega
  rw [hSe, hre, hlo] at HM
  rw [hSe, hm] at hSl
  rw [hSe] at hS
  have HS := Lib.hid hS
  have HSL := Lib.hid hSl
  obtain ⟨a0, c0, rfl, _⟩ := hv
  clear hSe hre hlo hm
  obtain ⟨G, hG⟩ : ∃ G, genusL S = G := ⟨_, rfl⟩
  obtain ⟨l, hlq⟩ : ∃ l, loopsL S = l := ⟨_, rfl⟩
  obtain ⟨d, hdq⟩ : ∃ l, dblsL S = l := ⟨_, rfl⟩
  obtain ⟨C, hC⟩ : ∃ C, partsN S + lo = C := ⟨_, rfl⟩
  obtain ⟨b1, hb1⟩ : ∃ b, (genusL S == 0) = b := ⟨_, rfl⟩
  obtain ⟨b2, hb2⟩ : ∃ b, decide (partsN S + lo = 1) = b := ⟨_, rfl⟩
  obtain ⟨b3, hb3⟩ : ∃ b, simpB S = b := ⟨_, rfl⟩
  obtain ⟨b4, hb4⟩ : ∃ b, triB S lo = b := ⟨_, rfl⟩
  have hlb := loopsTo_le S (S.length / 2)
  have hdb := dblsTo_le S (S.length / 2)
  rw [show loopsTo S (S.length / 2) = loopsL S from rfl, hlq] at hlb
  rw [show dblsTo S (S.length / 2) = dblsL S from rfl, hdq] at hdb
  have f1 : (G == 0) = b1 := by rw [← hb1, hG]
  have f2 : ((C : Int) == 1) = b2 := by
    rw [← hb2, hC]
    by_cases h : C = 1
    · subst h; rfl
    · rw [decide_eq_false h, beq_eq_false_iff_ne]; omega
  have f3 : ((l : Int) + (d : Int) == 0) = b3 := by
    rw [← hb3, simpB_sum, hlq, hdq]
    by_cases h : l + d = 0
    · rw [decide_eq_true h, beq_iff_eq]; omega
    · rw [decide_eq_false h, beq_eq_false_iff_ne]; omega
  have hwr : IntKind.i64.wrap ((l : Int) + (d : Int)) = (l : Int) + (d : Int) := IntWalk.i64_in _ (by omega)
  have F1 := Lib.hid f1
  have F2 := Lib.hid f2
  have F3 := Lib.hid f3
  have HW := Lib.hid hwr
  clear f1 f2 f3 hwr hlb hdb
  have K1 : Hid (∀ R w p, Inv R w → MapAt R p S r lo → Calls Try.prog 60 #[p] w (RetV R w (.int .i64 G))) := Lib.hid (fun R w p hI hp => by have := egenus_any R w hI p S r lo hp; rwa [hG] at this)
  have K2 : Hid (∀ R w p, Inv R w → MapAt R p S r lo → Calls Try.prog 49 #[p] w (RetV R w (.bool b1))) := Lib.hid (fun R w p hI hp => by have := planar_any R w hI p S r lo hp; rwa [hb1] at this)
  have K3 : Hid (∀ R w p, Inv R w → MapAt R p S r lo → Calls Try.prog 48 #[p] w (RetV R w (.bool b2))) := Lib.hid (fun R w p hI hp => by have := connected_any R w hI p S r lo hp; rwa [hb2] at this)
  have K4 : Hid (∀ R w p, Inv R w → MapAt R p S r lo → Calls Try.prog 53 #[p] w (RetV R w (.int .i64 (l : Int)))) := Lib.hid (fun R w p hI hp => by have := eloops_any R w hI p S r lo hp; rwa [hlq] at this)
  have K5 : Hid (∀ R w p, Inv R w → MapAt R p S r lo → Calls Try.prog 54 #[p] w (RetV R w (.int .i64 (d : Int)))) := Lib.hid (fun R w p hI hp => by have := edoubles_any R w hI p S r lo hp; rwa [hdq] at this)
  have K6 : Hid (∀ R w p, Inv R w → MapAt R p S r lo → Calls Try.prog 52 #[p] w (RetV R w (.bool b3))) := Lib.hid (fun R w p hI hp => by have := simple_any R w hI p S r lo hp; rwa [hb3] at this)
  have K7 : Hid (∀ R w p, Inv R w → MapAt R p S r lo → Calls Try.prog 61 #[p] w (RetV R w (.bool b4))) := Lib.hid (fun R w p hI hp => by have := etri_any R w hI p S r lo hp; rwa [hb4] at this)
  rw [← hSl] at hev hm20
  have D1 : Hid (∀ R w a c, Inv R w → FreeI R w (.slice a S.length c) (toI S) → Calls Try.prog 51 #[refV (.slice a S.length c) r lo] w (RetE R w (.int .i64 G))) := Lib.hid (fun R w a c hI hv => by have := r8genus_any R w hI _ S r lo hv hS (by omega) hev (by omega); rwa [hG] at this)
  have D2 : Hid (∀ R w a c, Inv R w → FreeI R w (.slice a S.length c) (toI S) → Calls Try.prog 58 #[refV (.slice a S.length c) r lo] w (RetE R w (.int .i64 (l : Int)))) := Lib.hid (fun R w a c hI hv => by have := r8loops_any R w hI _ S r lo hv hS (by omega) hev; rwa [hlq] at this)
  have D3 : Hid (∀ R w a c, Inv R w → FreeI R w (.slice a S.length c) (toI S) → Calls Try.prog 59 #[refV (.slice a S.length c) r lo] w (RetE R w (.int .i64 (d : Int)))) := Lib.hid (fun R w a c hI hv => by have := r8doubles_any R w hI _ S r lo hv hS (by omega) hev; rwa [hdq] at this)
  have D4 : Hid (∀ R w a c, Inv R w → FreeI R w (.slice a S.length c) (toI S) → Calls Try.prog 62 #[refV (.slice a S.length c) r lo] w (RetE R w (.bool b4))) := Lib.hid (fun R w a c hI hv => by have := r8tri_any R w hI _ S r lo hv hS (by omega) hev (by omega); rwa [hb4] at this)
  have D5 : Hid (∀ R w a c, Inv R w → FreeI R w (.slice a S.length c) (toI S) → Calls Try.prog 50 #[refV (.slice a S.length c) r lo] w (fun e w2 => ∃ a c, e = .returned (.slice a C c) ∧ Ev R w R w2)) := Lib.hid (fun R w a c hI hv =>
    (r8parts_any R w hI _ S r lo hv hS (by omega) hev (by omega)).mono (by
      rintro e w2 ⟨v, rfl, he3, a, c, rfl, _⟩
      rw [hC]
      exact ⟨a, c, rfl, he3⟩))
  clear hG hlq hdq hC hb1 hb2 hb3 hb4 hS hSl
  unfold refV at D1 D2 D3 D4 D5
  go_enter Try.func11, Try.ntmps11
  go_wp2_with fail
  refine HA.out.mono ?_
  rintro e w1 ⟨rfl, R1, he1⟩
  have HE1 := Lib.hid he1
  clear he1
  go_wp2_with fail
  refine (HM.out R1 w1 HE1.out.inv (HV.out.ev HE1.out)).mono ?_
  rintro e w2 ⟨p, a1, c1, R2, rfl, he2, hp2, hf2⟩
  unfold refV
  have hnone : R2 w2.heap.size = none := he2.inv.none_of_ge (Nat.le_refl _)
  have hI3 := he2.inv.alloc (.cells #[.slice a1 S.length c1, .int .i64 r, .int .i64 (lo : Int)] 27)
  have hf3 := hf2.ev ((Ev.refl he2.inv).alloc (.cells #[.slice a1 S.length c1, .int .i64 r, .int .i64 (lo : Int)] 27))
  have HE2 := Lib.hid (HE1.out.trans he2)
  have HP3 := Lib.hid hp2
  have HX := Lib.hid (fun R' w' (h : Ev R2 (w2.alloc (.cells #[.slice a1 S.length c1, .int .i64 r, .int .i64 (lo : Int)] 27)) R' w') => h.ref3 hnone)
  have HF3 := Lib.hid hf3
  have HI3 := Lib.hid hI3
  clear he2 hp2 hf2 hI3 hnone hf3
  go_wp2_with fail
  obtain ⟨w3, hw3⟩ : ∃ w3, w3 = w2.alloc (.cells #[.slice a1 S.length c1, .int .i64 r, .int .i64 (lo : Int)] 27) := ⟨_, rfl⟩
  have HE3 : Hid (Ev noReg w R2 w3) := by rw [hw3]; exact HE2.out.alloc _
  rw [← hw3] at HX HF3 HI3 ⊢
  clear hw3 HE2
  have HEd := Lib.hid ((Ev.refl HI3.out).drew)
  obtain ⟨x0, x1, x2⟩ := HX.out _ _ HEd.out
  go_cut [9, 10, 11] (fun s9 s10 s11 wx => s9 = .int .i64 G ∧ s10 = .int .i64 (l : Int) ∧ s11 = .int .i64 (d : Int) ∧ Ev R2 w3 R2 wx)
  case first =>
    go_region_held3 (fun w' => w'.cell? ⟨w2.heap.size, 0, none⟩ = some (.slice a1 S.length c1) ∧ w'.cell? ⟨w2.heap.size, 1, none⟩ = some (.int .i64 r) ∧ w'.cell? ⟨w2.heap.size, 2, none⟩ = some (.int .i64 lo)) (exact ⟨x0, x1, x2⟩) (first | (go_at_call 51; refine (D1.out _ _ _ _ HEd.out.inv (HF3.out.ev HEd.out)).mono ?_; rintro e w' ⟨rfl, he⟩; have HEd := Lib.hid (HEd.out.trans he); clear he; obtain ⟨x0, x1, x2⟩ := HX.out _ _ HEd.out) | (go_at_call 58; refine (D2.out _ _ _ _ HEd.out.inv (HF3.out.ev HEd.out)).mono ?_; rintro e w' ⟨rfl, he⟩; have HEd := Lib.hid (HEd.out.trans he); clear he; obtain ⟨x0, x1, x2⟩ := HX.out _ _ HEd.out) | (go_at_call 59; refine (D3.out _ _ _ _ HEd.out.inv (HF3.out.ev HEd.out)).mono ?_; rintro e w' ⟨rfl, he⟩; have HEd := Lib.hid (HEd.out.trans he); clear he; obtain ⟨x0, x1, x2⟩ := HX.out _ _ HEd.out))
    all_goals (go_wp2_with fail; go_meet)
    all_goals exact ⟨rfl, rfl, rfl, HEd.out⟩
  case rest =>
    obtain ⟨rfl, rfl, rfl, he⟩ := hcut
    have HEd := Lib.hid he.drew
    have HE4 := Lib.hid he
    clear he x0 x1 x2
    obtain ⟨x0, x1, x2⟩ := HX.out _ _ HEd.out
    have hwr := HW.out
    have f1 := F1.out
    have f2 := F2.out
    have f3 := F3.out
    go_wp2_with fail
    go_region_held3 (fun w' => w'.cell? ⟨w2.heap.size, 0, none⟩ = some (.slice a1 S.length c1) ∧ w'.cell? ⟨w2.heap.size, 1, none⟩ = some (.int .i64 r) ∧ w'.cell? ⟨w2.heap.size, 2, none⟩ = some (.int .i64 lo)) (exact ⟨x0, x1, x2⟩) (first | (go_at_call 60; refine (K1.out _ _ _ HEd.out.inv (HEd.out.map HP3.out)).mono ?_; rintro e w' ⟨rfl, R', he⟩; have HEd := Lib.hid (HEd.out.trans he); clear he; obtain ⟨x0, x1, x2⟩ := HX.out _ _ HEd.out) | (go_at_call 49; refine (K2.out _ _ _ HEd.out.inv (HEd.out.map HP3.out)).mono ?_; rintro e w' ⟨rfl, R', he⟩; have HEd := Lib.hid (HEd.out.trans he); clear he; obtain ⟨x0, x1, x2⟩ := HX.out _ _ HEd.out) | (go_at_call 48; refine (K3.out _ _ _ HEd.out.inv (HEd.out.map HP3.out)).mono ?_; rintro e w' ⟨rfl, R', he⟩; have HEd := Lib.hid (HEd.out.trans he); clear he; obtain ⟨x0, x1, x2⟩ := HX.out _ _ HEd.out) | (go_at_call 53; refine (K4.out _ _ _ HEd.out.inv (HEd.out.map HP3.out)).mono ?_; rintro e w' ⟨rfl, R', he⟩; have HEd := Lib.hid (HEd.out.trans he); clear he; obtain ⟨x0, x1, x2⟩ := HX.out _ _ HEd.out) | (go_at_call 54; refine (K5.out _ _ _ HEd.out.inv (HEd.out.map HP3.out)).mono ?_; rintro e w' ⟨rfl, R', he⟩; have HEd := Lib.hid (HEd.out.trans he); clear he; obtain ⟨x0, x1, x2⟩ := HX.out _ _ HEd.out) | (go_at_call 52; refine (K6.out _ _ _ HEd.out.inv (HEd.out.map HP3.out)).mono ?_; rintro e w' ⟨rfl, R', he⟩; have HEd := Lib.hid (HEd.out.trans he); clear he; obtain ⟨x0, x1, x2⟩ := HX.out _ _ HEd.out) | (go_at_call 61; refine (K7.out _ _ _ HEd.out.inv (HEd.out.map HP3.out)).mono ?_; rintro e w' ⟨rfl, R', he⟩; have HEd := Lib.hid (HEd.out.trans he); clear he; obtain ⟨x0, x1, x2⟩ := HX.out _ _ HEd.out) | (go_at_call 62; refine (D4.out _ _ _ _ HEd.out.inv (HF3.out.ev HEd.out)).mono ?_; rintro e w' ⟨rfl, he⟩; have HEd := Lib.hid (HEd.out.trans he); clear he; obtain ⟨x0, x1, x2⟩ := HX.out _ _ HEd.out) | (go_at_call 50; refine (D5.out _ _ _ _ HEd.out.inv (HF3.out.ev HEd.out)).mono ?_; rintro e w' ⟨a', c', rfl, he⟩; have HEd := Lib.hid (HEd.out.trans he); clear he; obtain ⟨x0, x1, x2⟩ := HX.out _ _ HEd.out))
    all_goals go_wp2_with fail
    all_goals go_ret
    all_goals exact ⟨ret_bool (by simp), _, HE3.out.trans HEd.out⟩

end Go.Proofs.Ytedocjhbmhllcaa
