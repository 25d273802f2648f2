/- ShellCounts, the walk: it answers true. Conditions: none. -/
import Derived.Test.YtcnmbenfnpjkjaaZSA46
import Derived.Test.YtcnmbenfnpjkjaaZSA45
import Derived.Test.YtcnmbenfnpjkjaaZSA49
import Derived.Test.YtcnmbenfnpjkjaaZSA41
namespace Go.Proofs.Ytcnmbenfnpjkjaa
open Go.RowKit
set_option linter.unusedVariables false
set_option linter.unusedSimpArgs false

set_option maxRecDepth 100000 in
set_option maxHeartbeats 4000000 in
theorem shellCounts_walk (w : World) (n root : Nat) (hn : n ≤ 255) (hr : root ≤ 255) (v : Value) (bs : List Nat) (hv : FreeB noReg w v bs) :
    Calls Try.prog 3 #[.int .u8 (n : Int), v, .int .u8 (root : Int)] w (RetTrue noReg w) := by
  have HA := Lib.hid (awake14_any noReg w (Inv.noReg w))
  have HTr := Lib.hid (fun R' w' (h : Ev noReg w R' w') => r14tri_any R' w' h.inv (n % 16) (by omega) v bs (hv.ev h) root hr)
  obtain ⟨q, hq⟩ : ∃ q, n % 16 = q := ⟨_, rfl⟩
  have hq16 : q < 16 := by omega
  have hqm : (n : Int) % 16 = (q : Int) := by omega
  rw [hq] at HTr
  obtain ⟨a0, c0, rfl, _, _⟩ := hv
  clear hq
  go_enter Try.func3, Try.ntmps3
  go_wp2_with fail
  refine HA.out.mono ?_
  rintro e w1 ⟨rfl, R1, he1⟩
  have HE1 := Lib.hid he1
  have HTr := Lib.hid (HTr.out _ _ he1)
  clear he1 HA
  go_wp2_with fail
  refine HTr.out.mono ?_
  rintro e w2 ⟨s, r, hT, hsl, hrt, a, c, rfl, he2, ho2⟩
  as_aux_lemma =>
    unfold refV
    have hrs : r < s.length := by omega
    have hok : MapOk s (r : Int) 0 := by unfold MapOk; have := hT.even; omega
    have hea := he2.alloc (.cells #[.slice a s.length c, .int .i64 (r : Int), .int .i64 0] 26)
    have HOf := Lib.hid (of14_any R1 _ hea.inv _ s (r : Int) 0 (ho2.alloc _).free hT.perm hok)
    unfold refV at HOf
    have HEa := Lib.hid (HE1.out.trans hea)
    have HT := Lib.hid hT
    have HR := Lib.hid hrs
    have HVm := Lib.hid (sizesL_le hT.perm)
    obtain ⟨N, hN⟩ : ∃ N, s.length = N := ⟨_, rfl⟩
    have hN1000 : N ≤ 1000 := by omega
    have HN := Lib.hid hN
    rw [hN] at HOf HEa ⊢
    clear he2 ho2 HTr hT hok hea hsl hrt hrs hN HE1
    go_wp2_with fail
    refine HOf.out.mono ?_
    rintro e w3 ⟨p, R3, rfl, he3, hp3⟩
    have HE3 := Lib.hid (HEa.out.trans he3)
    have HOr := Lib.hid (sorder_any R3 w3 he3.inv p s r hp3 HT.out HR.out)
    have HP := Lib.hid hp3
    clear he3 hp3 HOf HEa
    go_wp2_with fail
    refine HOr.out.mono ?_
    rintro e w4 ⟨v4, R4, rfl, he4, ho4⟩
    as_aux_lemma =>
      obtain ⟨V, hV⟩ : ∃ V, (sizesL s).length = V := ⟨_, rfl⟩
      have hVl : (orderL s r).length = V := by rw [order_len HT.out HR.out, hV]
      have hV3 : 3 ≤ V := by rw [← hV]; exact HT.out.big
      have hVm : V ≤ 1000 := by have := HVm.out; rw [HN.out, hV] at this; omega
      have HVq := Lib.hid hV
      obtain ⟨a4, c4, rfl, _⟩ := ho4.ints.open
      rw [hVl] at ho4 ⊢
      have HE4 := Lib.hid (HE3.out.trans he4)
      have HO4 := Lib.hid ho4
      have HP4 := Lib.hid (he4.map HP.out)
      have HVl := Lib.hid hVl
      clear he4 ho4 HP HE3 HOr hVl hV HVm
      obtain ⟨i0, hi, hz0, hz1, hz2⟩ := info_parts int_info
      go_wp2_with (refine wpList_make_full _ rfl _ _ 24 rfl w4.heap.size 3 i0 (.int .i64 0) 1 Try.underlying24 hi hz0 hz1 .i64 .i64 (V : Int) (V : Int) V rfl rfl rfl rfl ?q1 ?q2 (Nat.le_refl _) ?_)
      case q1 => rw [hz2]; omega
      case q2 => unfold maxLen; omega
      intro w5 ho5 hg5
      have hos := OwnI.made HE4.out.inv ho5
      have he5 := (Ev.refl HE4.out.inv).grown hg5 (by simp)
      have HE5 := Lib.hid (HE4.out.trans he5)
      have HO5 := Lib.hid (HO4.out.ev he5)
      have HS5 := Lib.hid hos
      have HG : Hid (Ev noReg w R4 w5 ∧ w.heap.size ≤ w4.heap.size) := Lib.hid ⟨HE4.out.trans he5, HE4.out.size⟩
      have HD := Lib.hid (fun k (hk : (Value.slice a4 V c4).ownBlock = some k) => (HO4.out.lt k hk).2)
      have HNo := Lib.hid (order_nodup HT.out HR.out)
      have HMe := Lib.hid (fun v (hv : v ∈ orderL s r) => by have := (order_mem HT.out HR.out v).1 hv; rwa [HVq.out] at this)
      clear ho5 hg5 hos he5 HE4 HO4 HE5
      go_wp2_with fail
      go_loopg [41] V (fun g v41 wr => ∃ (i : Nat) (P : List Int), i ≤ V ∧ V - i ≤ g ∧ v41 = .int .i64 (i : Int) ∧ Ev noReg w R4 wr ∧ OwnI R4 w3.heap.size 3 wr (.slice a4 V c4) (orderL s r) ∧ OwnI R4 w4.heap.size 3 wr (.slice (some ⟨w4.heap.size, 0, none⟩) V V) P ∧ PlTo P (orderL s r) V i)
      case atStart => exact ⟨0, _, Nat.zero_le _, by omega, rfl, HG.out.1, HO5.out, HS5.out, PlTo.start _ _⟩
      case round =>
        obtain ⟨i, P, hiV, hg, rfl, he, ho, hs, hP⟩ := hrel
        as_aux_lemma =>
          have HE := Lib.hid he
          have HO := Lib.hid ho
          have HS := Lib.hid hs
          have HP := Lib.hid hP
          clear he ho hs hP HO5 HS5
          by_cases hil : i < V
          · obtain ⟨gb, rfl, _, _, hc, _⟩ := HO.out.headAt HVl.out (i := i) hil
            have hvm := HMe.out _ (nth_mem (show i < (orderL s r).length by rw [HVl.out]; exact hil))
            obtain ⟨k, hk⟩ : ∃ k, (nth (orderL s r) i).toNat = k := ⟨_, rfl⟩
            have hkV : k < V := by omega
            have hki : nth (orderL s r) i = (k : Int) := by omega
            rw [hki] at hc
            obtain ⟨gx, e2, hgb, hgn, hcx, hzx⟩ := HS.out.headAt HP.out.1 hkV
            cases e2
            have hst := HS.out.put HP.out.1 k hkV (i : Int)
            have hps := HP.out.step HNo.out HMe.out (by rw [HVl.out]; exact hil)
            rw [hk] at hps
            have HST := Lib.hid hst
            have HPS := Lib.hid hps
            have HOS := Lib.hid (HO.out.setCell (a := ⟨w4.heap.size, k, none⟩) (fun e => by have := HD.out _ e; exact absurd this (Nat.lt_irrefl _)) (.int .i64 (i : Int)))
            clear hst hps hki hvm hk
            go_wp2_with fail
            go_roundg (V - (i + 1))
            case measure => omega
            case rel => exact ⟨i + 1, _, by omega, by omega, by go_num, HE.out.setCell HG.out.2 hgn _, HOS.out, by (first | exact HST.out | simpa using HST.out), HPS.out⟩
          · obtain rfl : V = i := by omega
            obtain ⟨wd, hwd⟩ : ∃ wd : World, wd = wr := ⟨_, rfl⟩
            subst hwd
            as_aux_lemma =>
              have hP := HP.out
              rw [← HVq.out] at hP
              have hpl := hP.pl HT.out HR.out
              have HPl := Lib.hid hpl
              have HAt : Hid (∀ x, x < N → nth P (vtx s x) = (plD s (plP P) x : Int) ∧ plD s (plP P) x < V ∧ vtx s x < V) := Lib.hid fun x hx => by have := hP.at HT.out HR.out (x := x) (by rw [HN.out]; exact hx); rwa [HVq.out] at this
              have HVx := Lib.hid (fun R' w' (h : Ev R4 wd R' w') (x : Nat) (hx : x < N) => by
                have := vertex_any R' w' h.inv p s (r : Int) 0 (h.map HP4.out) (x : Int)
                rwa [nameI_in (by rw [HN.out]; exact hx), vtx_eq HT.out.perm (by rw [HN.out]; exact hx)] at this)
              have HDt := Lib.hid (fun R' w' (h : Ev R4 wd R' w') => by
                have := darts_any R' w' h.inv p s (r : Int) 0 (h.map HP4.out)
                rwa [HN.out] at this)
              have hev : N % 2 = 0 := by rw [← HN.out]; exact HT.out.even
              clear hP hpl HNo HMe HD
              obtain ⟨i0, hi, hz0, hz1, hz2⟩ := info_parts int_info
              go_wp2_with (refine wpList_make_full _ rfl _ _ 24 rfl wd.heap.size 3 i0 (.int .i64 0) 1 Try.underlying24 hi hz0 hz1 .i64 .i64 (V : Int) (V : Int) V rfl rfl rfl rfl ?q3 ?q4 (Nat.le_refl _) ?_)
              case q3 => rw [hz2]; omega
              case q4 => unfold maxLen; omega
              intro w6 ho6 hg6
              have hos := OwnI.made HE.out.inv ho6
              have he6 := (Ev.refl HE.out.inv).grown hg6 (by simp)
              have HS6 := Lib.hid hos
              have HG2 := Lib.hid HE.out
              have HE6 := Lib.hid he6
              have hlt := (HS.out.lt w4.heap.size rfl).2
              have HQ6 := Lib.hid (HS.out.ev he6)
              have HLt := Lib.hid hlt
              clear ho6 hg6 hos he6 hlt
              go_wp2_with fail
              go_loopg [15] (N / 2) (fun g v15 wq => ∃ (e : Nat) (E : List Int) (R6 : Reg), e ≤ N / 2 ∧ N / 2 - e ≤ g ∧ v15 = .int .i64 ((2 * e : Nat) : Int) ∧ Ev R4 wd R6 wq ∧ OwnI R6 w4.heap.size 3 wq (.slice (some ⟨w4.heap.size, 0, none⟩) V V) P ∧ OwnI R6 wd.heap.size 3 wq (.slice (some ⟨wd.heap.size, 0, none⟩) V V) E ∧ EdTo s (plP P) V e E)
              case atStart => exact ⟨0, _, R4, Nat.zero_le _, by omega, rfl, HE6.out, HQ6.out, HS6.out, EdTo.start _ _ _⟩
              case round =>
                obtain ⟨e, E, R6, heN, hge, rfl, heq, hq, hse, hed⟩ := hrel
                as_aux_lemma =>
                  have HEq := Lib.hid heq
                  have HQ := Lib.hid hq
                  have HSe := Lib.hid hse
                  have HEd := Lib.hid hed
                  clear heq hq hse hed HE6 HQ6 HS6
                  obtain ⟨x, hx⟩ : ∃ x, 2 * e = x := ⟨_, rfl⟩
                  rw [hx]
                  have HD1 := Lib.hid (HDt.out _ _ HEq.out)
                  by_cases hil : x < N
                  · have hx1 : IntKind.i64.wrap ((x : Int) + 1) = ((x + 1 : Nat) : Int) := by rw [show (x : Int) + 1 = ((x + 1 : Nat) : Int) by omega]; exact IntWalk.i64_in _ (by omega)
                    have hb : decide ((x : Int) < (N : Int)) = true := decide_eq_true (by omega)
                    go_wp2_with fail
                    refine HD1.out.mono ?_
                    rintro e' w' ⟨rfl, rfl⟩
                    go_upto_region 18 with fail
                    have hA := HAt.out x hil
                    have hB := HAt.out (x + 1) (by omega)
                    have hL : lateN s (plP P) e = max (plD s (plP P) x) (plD s (plP P) (x + 1)) := by rw [← hx]; rfl
                    obtain ⟨va, hva⟩ : ∃ va, vtx s x = va := ⟨_, rfl⟩
                    obtain ⟨vb, hvb⟩ : ∃ vb, vtx s (x + 1) = vb := ⟨_, rfl⟩
                    obtain ⟨pa, hpa⟩ : ∃ pa, plD s (plP P) x = pa := ⟨_, rfl⟩
                    obtain ⟨pb, hpb⟩ : ∃ pb, plD s (plP P) (x + 1) = pb := ⟨_, rfl⟩
                    obtain ⟨k, hk⟩ : ∃ k, lateN s (plP P) e = k := ⟨_, rfl⟩
                    rw [hva, hpa] at hA
                    rw [hvb, hpb] at hB
                    rw [hpa, hpb, hk] at hL
                    have hkV : k < V := by omega
                    have hst := HEd.out.step (by rw [hk]; exact hkV)
                    rw [hk] at hst
                    obtain ⟨ne, hne⟩ : ∃ ne, lateC s (plP P) k e = ne := ⟨_, rfl⟩
                    have hne1 : nth E k = (ne : Int) := by rw [HEd.out.2 k hkV, hne]
                    have hneN : ne ≤ N := by have := lateC_le s (plP P) k e; omega
                    rw [hne1] at hst
                    have hw1 : IntKind.i64.wrap ((ne : Int) + 1) = (ne : Int) + 1 := IntWalk.i64_in _ (by omega)
                    have HV1 := Lib.hid (fun R' w'' (h : Ev R6 wr R' w'') => by have := HVx.out R' w'' (HEq.out.trans h) x hil; rwa [hva] at this)
                    have HV2 := Lib.hid (fun R' w'' (h : Ev R6 wr R' w'') => by have := HVx.out R' w'' (HEq.out.trans h) (x + 1) (by omega); rwa [hvb, show ((x + 1 : Nat) : Int) = (x : Int) + 1 from rfl] at this)
                    have HX := Lib.hid (fun R' w'' (h : Ev R6 wr R' w'') => (by
                      obtain ⟨g1, q1, _, _, z1, _⟩ := (HQ.out.ev h).headAt HP.out.1 hA.2.2
                      cases q1
                      obtain ⟨g2, q2, _, _, z2, _⟩ := (HQ.out.ev h).headAt HP.out.1 hB.2.2
                      cases q2
                      obtain ⟨g3, q3, _, _, z3, z4⟩ := (HSe.out.ev h).headAt HEd.out.1 hkV
                      cases q3
                      rw [hA.1] at z1
                      rw [hB.1] at z2
                      rw [hne1] at z3
                      exact ⟨z1, z2, z3, z4⟩ : w''.cell? ⟨w4.heap.size, va, none⟩ = some (.int .i64 (pa : Int)) ∧ w''.cell? ⟨w4.heap.size, vb, none⟩ = some (.int .i64 (pb : Int)) ∧ w''.cell? ⟨wd.heap.size, k, none⟩ = some (.int .i64 (ne : Int)) ∧ w''.frozen? ⟨wd.heap.size, k, none⟩ = false))
                    have HSt := Lib.hid hst
                    have HA := Lib.hid hA
                    have HB := Lib.hid hB
                    have HK := Lib.hid hkV
                    have HH := Lib.hid hx
                    have hvaV : va < V := hA.2.2
                    have hvbV : vb < V := hB.2.2
                    clear hst hA hB hkV hk hne hne1 hva hvb hpa hpb
                    have HNe : Hid (w4.heap.size ≠ wd.heap.size) := Lib.hid (by have := HLt.out; omega)
                    have HFar := Lib.hid (fun (W : World) (o j : Nat) (u : Value) => (World.cell?_setCell_far W ⟨wd.heap.size, o, none⟩ ⟨w4.heap.size, j, none⟩ u (fun q => HNe.out q.symm)))
                    have hm8 : max (pa : Int) (pb : Int) = (k : Int) := by omega
                    have hm9 : (k : Int) < (V : Int) := by have := HK.out; omega
                    have hm7 : (0 : Int) ≤ (k : Int) := by omega
                    clear hL
                    have HEd2 := Lib.hid (Ev.refl HEq.out.inv).drew
                    obtain ⟨x0, x1, x2, x3⟩ := HX.out _ _ HEd2.out
                    as_aux_lemma =>
                      refine wp_region_held_drew (S := fun W => W.cell? ⟨w4.heap.size, va, none⟩ = some (.int .i64 (pa : Int)) ∧ W.cell? ⟨w4.heap.size, vb, none⟩ = some (.int .i64 (pb : Int))) (by kernel_rfl) ⟨x0, x1⟩ (fun hHeld => ?_)
                      refine tk 0 (v := ?ft1) ?gt1 ?_
                      case gt1 => (intro w' ⟨s0, s1⟩; go_simp; try with_reducible rfl)
                      try simp only [Act.put, rd]
                      refine tk 1 (v := ?ft2) ?gt2 ?_
                      case gt2 => (intro w' ⟨s0, s1⟩; go_simp; try with_reducible rfl)
                      try simp only [Act.put, rd]
                      refine tk 2 (v := ?ft3) ?gt3 ?_
                      case gt3 => (intro w' ⟨s0, s1⟩; go_simp; try with_reducible rfl)
                      try simp only [Act.put, rd]
                      refine tk 3 (v := ?ft4) ?gt4 ?_
                      case gt4 => (intro w' ⟨s0, s1⟩; go_simp; try with_reducible rfl)
                      try simp only [Act.put, rd]
                      refine tk 7 (v := ?ft5) ?gt5 ?_
                      case gt5 => (intro w' ⟨s0, s1⟩; go_simp; try with_reducible rfl)
                      try simp only [Act.put, rd]
                      refine tk 8 (v := ?ft6) ?gt6 ?_
                      case gt6 => (intro w' ⟨s0, s1⟩; go_simp; try with_reducible rfl)
                      try simp only [Act.put, rd]
                      refine tk 9 (v := ?ft7) ?gt7 ?_
                      case gt7 => (intro w' ⟨s0, s1⟩; go_simp; try with_reducible rfl)
                      try simp only [Act.put, rd]
                      refine tk 10 (v := ?ft8) ?gt8 ?_
                      case gt8 => (intro w' ⟨s0, s1⟩; go_simp; try with_reducible rfl)
                      try simp only [Act.put, rd]
                      refine nx 4 fun K hK => ?_
                      go_simp
                      refine (HV1.out _ _ HEd2.out).mono ?_
                      rintro e' wa ⟨rfl, Ra, hea⟩
                      have HEd3 := Lib.hid (HEd2.out.trans hea)
                      clear hea x0 x1 x2 x3
                      obtain ⟨x0, x1, x2, x3⟩ := HX.out _ _ HEd3.out
                      go_simp
                      refine hK.out _ _ ⟨x0, x1⟩ (fun hHeld2 => ?_)
                      clear hHeld
                      refine tk 5 (v := ?ft9) ?gt9 ?_
                      case gt9 => (intro w' ⟨s0, s1⟩; go_simp; try with_reducible rfl)
                      try simp only [Act.put, rd]
                      refine tk 6 (v := ?ft10) ?gt10 ?_
                      case gt10 => (intro w' ⟨s0, s1⟩; go_simp; try with_reducible rfl)
                      try simp only [Act.put, rd]
                      refine nx 11 fun K hK => ?_
                      go_simp
                      refine (HV2.out _ _ HEd3.out).mono ?_
                      rintro e' wb ⟨rfl, Rb, heb⟩
                      have HEd4 := Lib.hid (HEd3.out.trans heb)
                      clear heb x0 x1 x2 x3
                      obtain ⟨x0, x1, x2, x3⟩ := HX.out _ _ HEd4.out
                      go_simp
                      refine hK.out _ _ ⟨x0, x1⟩ (fun hHeld3 => ?_)
                      clear hHeld2
                      refine tk 12 (v := ?ft11) ?gt11 ?_
                      case gt11 => (intro w' ⟨s0, s1⟩; go_simp; try with_reducible rfl)
                      try simp only [Act.put, rd]
                      refine tk 13 (v := ?ft12) ?gt12 ?_
                      case gt12 => (intro w' ⟨s0, s1⟩; go_simp; try with_reducible rfl)
                      try simp only [Act.put, rd]
                      refine tk 14 (v := ?ft13) ?gt13 ?_
                      case gt13 => (intro w' ⟨s0, s1⟩; go_simp; try with_reducible rfl)
                      try simp only [Act.put, rd]
                      refine tk 15 (v := ?ft14) ?gt14 ?_
                      case gt14 => (intro w' ⟨s0, s1⟩; go_simp; try with_reducible rfl)
                      try simp only [Act.put, rd]
                      refine nx 16 fun K hK => ?_
                      go_simp
                      refine hK.out _ _ ⟨x0, x1⟩ (fun hHeld4 => ?_)
                      clear hHeld3
                      refine tk 17 (v := ?ft15) ?gt15 ?_
                      case gt15 => (intro w' ⟨s0, s1⟩; go_simp; try with_reducible rfl)
                      try simp only [Act.put, rd]
                      refine tk 18 (v := ?ft16) ?gt16 ?_
                      case gt16 => (intro w' ⟨s0, s1⟩; go_simp; try with_reducible rfl)
                      try simp only [Act.put, rd]
                      refine nx 19 fun K hK => ?_
                      go_simp
                      refine hK.out _ _ ⟨(HFar.out _ _ _ _).trans x0, (HFar.out _ _ _ _).trans x1⟩ (fun hHeld5 => ?_)
                      refine wpAnyH_done (by kernel_rfl) ?_ _
                      have hse2 := ((HSe.out.ev HEd4.out).put HEd.out.1 k HK.out ((ne : Int) + 1))
                      have HSe2 := Lib.hid hse2
                      have HQ2 := Lib.hid ((HQ.out.ev HEd4.out).setCell (a := ⟨wd.heap.size, k, none⟩) (fun q => HNe.out (Option.some.inj q)) (.int .i64 ((ne : Int) + 1)))
                      have HE2b := Lib.hid ((HEq.out.trans HEd4.out).setCell (p := ⟨wd.heap.size, k, none⟩) (Nat.le_refl _) ((HSe.out.ev HEd4.out).2 _ rfl) (.int .i64 ((ne : Int) + 1)))
                      clear hse2
                      go_wp2_with fail
                      go_roundg (N / 2 - (e + 1))
                      case measure => omega
                      case rel => exact ⟨e + 1, _, Rb, by omega, by omega, by rw [← HH.out]; go_num, HE2b.out, HQ2.out, HSe2.out, HSt.out⟩
                  · have hb : decide ((x : Int) < (N : Int)) = false := decide_eq_false (by omega)
                    have heN' : e = N / 2 := by omega
                    rw [heN'] at HEd
                    go_wp2_with fail
                    refine HD1.out.mono ?_
                    rintro e' w' ⟨rfl, rfl⟩
                    go_wp2_with fail
                    have HF : Hid (Ev noReg w R6 wr) := Lib.hid (HG2.out.trans HEq.out)
                    as_aux_lemma =>
                      have HC : Hid (∀ i, i < V → nth E i = (lateC s (plP P) i (N / 2) : Int)) := Lib.hid HEd.out.2
                      have HC0 := Lib.hid (lateC_zero HT.out HR.out HPl.out)
                      have HC1 := Lib.hid (lateC_one HT.out HR.out HPl.out)
                      have HC2 := Lib.hid (fun i => lateC_two (i := i) HT.out HR.out HPl.out)
                      have HC3 := Lib.hid (lateC_third HT.out HR.out HPl.out)
                      have HCs := Lib.hid (lateC_sum HT.out HR.out HPl.out)
                      rw [HN.out] at HC0 HC1 HC2 HC3 HCs
                      rw [HVq.out] at HC2 HCs
                      have HEl := Lib.hid HEd.out.1
                      have HLe := Lib.hid (fun i => sumQ_le (fun i => lateC s (plP P) i (N / 2)) N (fun i => by have := lateC_le s (plP P) i (N / 2); omega) i)
                      have HLc := Lib.hid (fun i => lateC_le s (plP P) i (N / 2))
                      obtain ⟨f, hf⟩ : ∃ f, (fun i => lateC s (plP P) i (N / 2)) = f := ⟨_, rfl⟩
                      have hf2 : ∀ i, lateC s (plP P) i (N / 2) = f i := fun i => congrFun hf i
                      rw [hf] at HLe HCs
                      simp only [hf2] at HC HC0 HC1 HC2 HC3 HLc
                      have HSuc : Hid (∀ i, sumQ f (i + 1) = sumQ f i + f i) := Lib.hid fun i => rfl
                      clear hf hf2 HPl HAt HVx HDt HEd HEq HQ HD1
                      go_loopg [16, 81] V (fun g v16 v81 wz => ∃ (i sm : Nat), i ≤ V ∧ V - i ≤ g ∧ v16 = .int .i64 (sm : Int) ∧ v81 = .int .i64 (i : Int) ∧ sm = sumQ f i ∧ wz = wr)
                      case atStart => exact ⟨0, 0, Nat.zero_le _, by omega, rfl, rfl, rfl, rfl⟩
                      case round =>
                        obtain ⟨i, sm, hiV, hgi, rfl, rfl, hsm, rfl⟩ := hrel
                        as_aux_lemma =>
                          have hle := HLe.out i
                          have hVN : i * N ≤ 1000 * 1000 := Nat.mul_le_mul (by omega) hN1000
                          by_cases hil : i < V
                          · obtain ⟨g3, q3, _, _, z3, z4⟩ := HSe.out.headAt HEl.out hil
                            cases q3
                            rw [HC.out i hil] at z3
                            have hsu := HSuc.out i
                            have hlc := HLc.out i
                            have hk : (i = 0 ∧ f i = 0) ∨ (i = 1 ∧ f i = 1) ∨ (2 ≤ i ∧ 2 ≤ f i) := by
                              rcases (by omega : i = 0 ∨ i = 1 ∨ 2 ≤ i) with e | e | e
                              · exact .inl ⟨e, by rw [e]; exact HC0.out⟩
                              · exact .inr (.inl ⟨e, by rw [e]; exact HC1.out⟩)
                              · exact .inr (.inr ⟨e, HC2.out i e hil⟩)
                            obtain ⟨y, hy⟩ : ∃ y, f i = y := ⟨_, rfl⟩
                            rw [hy] at z3 hsu hlc hk
                            have hw : IntKind.i64.wrap ((sm : Int) + (y : Int)) = ((sm + y : Nat) : Int) := by rw [show (sm : Int) + (y : Int) = ((sm + y : Nat) : Int) by omega]; exact IntWalk.i64_in _ (by omega)
                            have hsb : sm ≤ 1000000 := by rw [hsm]; omega
                            have HSu := Lib.hid hsu
                            have HSm := Lib.hid hsm
                            clear hsu hsm hy
                            rcases hk with ⟨k1, k2⟩ | ⟨k1, k2⟩ | ⟨k1, k2⟩
                            · subst k1 k2
                              have hw0 : IntKind.i64.wrap (sm : Int) = (sm : Int) := IntWalk.i64_in _ (by omega)
                              go_wp2_with fail
                              go_roundg (V - (0 + 1))
                              case measure => omega
                              case rel => exact ⟨1, sm, by omega, by omega, by first | go_num | exact congrArg _ (IntWalk.i64_in _ (by omega)), by go_num, by have := HSu.out; rw [← HSm.out] at this; exact this.symm, rfl⟩
                            · subst k1 k2
                              go_wp2_with fail
                              go_roundg (V - (1 + 1))
                              case measure => omega
                              case rel => exact ⟨2, sm + 1, by omega, by omega, by go_num, by go_num, by rw [HSu.out, HSm.out], rfl⟩
                            · have b1 : ((i : Int) == 0) = false := beq_eq_false_iff_ne.2 (by omega)
                              have b2 : ((i : Int) == 1) = false := beq_eq_false_iff_ne.2 (by omega)
                              have b3 : decide ((1 : Int) < (i : Int)) = true := decide_eq_true (by omega)
                              have b4 : decide ((y : Int) < 2) = false := decide_eq_false (by omega)
                              go_wp2_with fail
                              go_roundg (V - (i + 1))
                              case measure => omega
                              case rel => exact ⟨i + 1, sm + y, by omega, by omega, by go_num, by go_num, by rw [HSu.out, HSm.out], rfl⟩
                          · obtain rfl : V = i := by omega
                            obtain ⟨g3, q3, _, _, z3, z4⟩ := HSe.out.headAt HEl.out (i := 2) (by omega)
                            cases q3
                            rw [HC.out 2 (by omega), HC3.out] at z3
                            have hs3 := HCs.out
                            rw [← hsm] at hs3
                            have hw3 : IntKind.i64.wrap (3 * (V : Int)) = ((sm + 6 : Nat) : Int) := by rw [show 3 * (V : Int) = ((sm + 6 : Nat) : Int) by omega]; exact IntWalk.i64_in _ (by omega)
                            have hw4 : IntKind.i64.wrap ((V : Int) * 3) = ((sm + 6 : Nat) : Int) := by rw [show (V : Int) * 3 = ((sm + 6 : Nat) : Int) by omega]; exact IntWalk.i64_in _ (by omega)
                            have hw5 : IntKind.i64.wrap (((sm + 6 : Nat) : Int) - 6) = (sm : Int) := by rw [show ((sm + 6 : Nat) : Int) - 6 = (sm : Int) by omega]; exact IntWalk.i64_in _ (by omega)
                            have hw6 : IntKind.i64.wrap ((sm : Int) + 6 - 6) = (sm : Int) := by rw [show (sm : Int) + 6 - 6 = (sm : Int) by omega]; exact IntWalk.i64_in _ (by omega)
                            have HSm := Lib.hid hsm
                            have hw7 := IntWalk.i64_in (sm : Int) (by omega)
                            clear hs3 hsm
                            go_wp2_with fail
                            go_ret
                            exact ⟨by first | rfl | (simp; done) | (simp; exact hw7.symm), R6, HF.out⟩
end Go.Proofs.Ytcnmbenfnpjkjaa
