/- parquetrylaw14: of, awake. Conditions: the map's list lies in memory. ShellNo, the walk: it answers true. Conditions: none. -/
import Derived.Test.YtcnmbenfnpjkjaaGreatZShellNo41
import Derived.Test.YtcnmbenfnpjkjaaGreatZShellNo36
import Derived.Test.YtcnmbenfnpjkjaaGreatZShellNo13
import Derived.Test.YtcnmbenfnpjkjaaGreatZShellNo42
import Derived.Test.YtcnmbenfnpjkjaaGreatZShellNo43
import Derived.Test.YtcnmbenfnpjkjaaGreatZShellNo45
import Derived.Test.YtcnmbenfnpjkjaaGreatZShellNo23
import Derived.Test.YtcnmbenfnpjkjaaGreatZShellNo11
import Derived.Test.YtcnmbenfnpjkjaaGreatZShellNo38
namespace Go.Proofs.YtcnmbenfnpjkjaaGreat
open Go.RowKit
set_option linter.unusedVariables false

theorem FreeI.six14 {R : Reg} {w : World} (hI : Inv R w) (a b c d e f : Int) : FreeI R (w.alloc (.cells #[.int .i64 a, .int .i64 b, .int .i64 c, .int .i64 d, .int .i64 e, .int .i64 f] 3)) (.slice (some ⟨w.heap.size, 0, none⟩) 6 6) [a, b, c, d, e, f] := by
  have h := World.ownsRow_lit (base := w.heap.size) (e := 3) (size := 1) w #[.int .i64 a, .int .i64 b, .int .i64 c, .int .i64 d, .int .i64 e, .int .i64 f] 6 (Nat.le_refl _) (by simp [maxLen]) rfl
  have ho : OwnI R w.heap.size 3 (w.alloc (.cells #[.int .i64 a, .int .i64 b, .int .i64 c, .int .i64 d, .int .i64 e, .int .i64 f] 3)) (.slice (some ⟨w.heap.size, 0, none⟩) 6 6) [a, b, c, d, e, f] := by
    refine ⟨by simpa using h, fun k hk => ?_⟩
    simp only [Value.ownBlock, Option.some.injEq] at hk
    rw [← hk]
    exact hI.none_of_ge (Nat.le_refl _)
  exact ho.free

/-- a triangle's order is its corners -/
theorem order_three {s : List Nat} (h : TriS s) {r : Nat} (hr : r < s.length) (h3 : (sizesL s).length = 3) : orderL s r = cor3 s r := by
  have hl := order_len h hr
  have e2 := order_last h hr
  rw [h3] at hl e2
  unfold cor3
  refine List.ext_getElem (by rw [hl]; rfl) fun i h1 h2 => ?_
  have k : ∀ i, (hi : i < (orderL s r).length) → (orderL s r)[i] = nth (orderL s r) i := fun i hi => (nth_at hi).symm
  rw [k i h1]
  match i, h2 with
  | 0, _ => rfl
  | 1, _ => rfl
  | 2, _ => exact e2

set_option maxRecDepth 100000 in
set_option maxHeartbeats 1000000 in
theorem of14_any (R : Reg) (w : World) (hI : Inv R w) (v : Value) (s : List Nat) (root lone : Int) (hv : FreeI R w v (toI s)) (hS : IsPerm s) (hok : MapOk s root lone) :
    Calls Tryz.prog 10 #[refV v root lone] w fun e w' => ∃ p R', e = .returned p ∧ Ev R w R' w' ∧ MapAt R' p s root lone := by
  obtain ⟨a0, cap0, rfl, _⟩ := hv.open
  rw [toI_length] at hv ⊢
  unfold refV
  have he1 : Ev R w R (w.alloc (.cells #[.slice a0 s.length cap0, .int .i64 root, .int .i64 lone] 26)) := (Ev.refl hI).alloc _
  have HN := Lib.hid (new_yes R _ he1.inv _ s (hv.ev he1) root lone hS hok)
  have HE1 := Lib.hid he1
  clear hI hv hS hok he1
  go_enter Tryz.func10, Tryz.ntmps10
  go_wp2_with fail
  refine HN.out.mono ?_
  rintro e w2 ⟨p, R2, rfl, he2, hp⟩
  have HE2 := Lib.hid (HE1.out.trans he2)
  have HP := Lib.hid hp
  clear he2 hp
  go_wp2_with fail
  go_ret
  exact ⟨_, R2, rfl, HE2.out, HP.out⟩

set_option maxRecDepth 100000 in
set_option maxHeartbeats 2000000 in
theorem awake14_any (R : Reg) (w : World) (hI : Inv R w) : Calls Tryz.prog 8 #[] w (RetTrue R w) := by
  have hok3 : MapOk [5, 2, 1, 4, 3, 0] 0 0 := by unfold MapOk; simp
  have HT := Lib.hid triS_one
  have ho3 := order_three triS_one (r := 0) (by decide) (by decide +kernel)
  have HO3 := Lib.hid ho3
  have HF := Lib.hid (of14_any R _ (hI.alloc _) _ [5, 2, 1, 4, 3, 0] 0 0 (FreeI.six14 hI 5 2 1 4 3 0) triS_one.perm hok3)
  have HE0 := Lib.hid ((Ev.refl hI).alloc (.cells #[.int .i64 5, .int .i64 2, .int .i64 1, .int .i64 4, .int .i64 3, .int .i64 0] 3))
  obtain ⟨C, hC⟩ : ∃ C, cor3 [5, 2, 1, 4, 3, 0] 0 = C := ⟨_, rfl⟩
  have hCl : C.length = 3 := by rw [← hC]; rfl
  have HC := Lib.hid hC
  have HCl := Lib.hid hCl
  unfold refV at HF
  clear hI hok3 ho3 hC hCl
  go_enter Tryz.func8, Tryz.ntmps8
  go_wp2_with fail
  refine HF.out.mono ?_
  rintro e w1 ⟨p, R1, rfl, he1, hp1⟩
  have HE1 := Lib.hid (HE0.out.trans he1)
  have ho := sorder_any R1 w1 he1.inv p _ 0 (by exact hp1) HT.out (by decide)
  unfold RetOrd at ho
  rw [HO3.out, HC.out] at ho
  have HO := Lib.hid ho
  have HCo := Lib.hid (fun R' w' (he : Ev R1 w1 R' w') => by
    have hc := corners_tri R' w' he.inv p _ 0 (he.map hp1) HT.out (by decide)
    unfold RetCor at hc
    rwa [HC.out] at hc)
  clear he1 ho hp1 HF HO3 HC
  go_wp2_with fail
  refine HO.out.mono ?_
  rintro e w2 ⟨v2, R2, rfl, he2, ho2⟩
  obtain ⟨a2, c2, rfl, _⟩ := ho2.ints.open
  rw [HCl.out] at ho2 ⊢
  have HE2 := Lib.hid (HE1.out.trans he2)
  have HCo := Lib.hid (HCo.out _ _ he2)
  have HO2 := Lib.hid ho2
  clear he2 ho2 HO
  go_wp2_with fail
  refine HCo.out.mono ?_
  rintro e w3 ⟨v3, R3, rfl, he3, ho3⟩
  obtain ⟨a3, c3, rfl, _⟩ := ho3.ints.open
  rw [HCl.out] at ho3 ⊢
  have HE3 := Lib.hid (HE2.out.trans he3)
  have HEq := Lib.hid (equal_any R3 w3 he3.inv _ _ C C ((HO2.out.ev he3).ints) ho3.ints (by rw [HCl.out]; omega) (by rw [HCl.out]; omega))
  rw [eqL_true rfl] at HEq
  clear he3 ho3 HCo HO2
  go_wp2_with (go_at_call 14; refine HEq.out.mono ?_; rintro e w4 ⟨rfl, he4⟩; have HE4 := Lib.hid (HE3.out.trans he4); clear he4)
  go_ret
  exact ⟨by first | rfl | simp, R3, HE4.out⟩
end Go.Proofs.YtcnmbenfnpjkjaaGreat

namespace Go.Proofs.YtcnmbenfnpjkjaaGreat
open Go.RowKit
set_option linter.unusedVariables false
set_option linter.unusedSimpArgs false

theorem nat_of_u16 {a : Int} (h : (Lit.int .u16 a).wf = true) : ∃ n : Nat, a = (n : Int) ∧ n ≤ 65535 := by
  have hx : 0 ≤ a ∧ a ≤ 65535 := by simpa [Lit.wf, IntKind.min, IntKind.max, IntKind.signed, IntKind.bits] using h
  exact ⟨a.toNat, by omega, by omega⟩

set_option maxRecDepth 100000 in
set_option maxHeartbeats 6000000 in
theorem shellNo_walk (w : World) (n root : Nat) (raw : Bool) (hn : n ≤ 65535) (hr : root ≤ 255) (v : Value) (bs : List Nat) (hv : FreeB noReg w v bs) :
    Calls Tryz.prog 4 #[.int .u16 (n : Int), v, .int .u8 (root : Int), .bool raw] w (RetTrue noReg w) := by
  have HA := Lib.hid (awake14_any noReg w (Inv.noReg w))
  have HTr := Lib.hid (fun R' w' (h : Ev noReg w R' w') => r14tri_any R' w' h.inv (n % 8) (by omega) v bs (hv.ev h) root hr)
  have HAn := Lib.hid (fun R' w' (h : Ev noReg w R' w') => rany_any R' w' h.inv (n % 8) (by omega) v bs (hv.ev h) root hr)
  obtain ⟨q, hq⟩ : ∃ q, n % 8 = q := ⟨_, rfl⟩
  have hq16 : q < 8 := by omega
  have hqm : (n : Int) % 8 = (q : Int) := by omega
  rw [hq] at HTr HAn
  obtain ⟨a0, c0, rfl, _, _⟩ := hv
  obtain ⟨e, he⟩ : ∃ e, root % 3 = e := ⟨_, rfl⟩
  have he3 : e < 3 := by omega
  have hem : (root : Int) % 3 = (e : Int) := by omega
  have hw0 : IntKind.i64.wrap (root : Int) = (root : Int) := IntWalk.i64_in _ (by omega)
  clear hq he
  go_enter Tryz.func4, Tryz.ntmps4
  go_wp2_with fail
  refine HA.out.mono ?_
  rintro z w1 ⟨rfl, R1, he1⟩
  have HE1 := Lib.hid he1
  have HTr := Lib.hid (HTr.out _ _ he1)
  clear he1 HA
  go_wp2_with fail
  refine HTr.out.mono ?_
  rintro z w2 ⟨s, r, hT, hsl, hrt, a, c, rfl, he2, ho2⟩
  as_aux_lemma =>
    have hok : MapOk s (r : Int) 0 := by unfold MapOk; have := hT.even; omega
    have hcl := cutLone_le s e
    have hok2 := hok.less hT.perm rfl (k := e) (by omega) (l := cutLone s e) (by omega)
    have hcp := doneL_perm hT.perm (e := e) (by omega)
    have HCu := Lib.hid (r10cut_any R1 w2 he2.inv _ s (r : Int) 0 ho2.free hT.perm (by omega) e (by omega) (by omega) (by omega))
    obtain ⟨S0, hS0⟩ : ∃ x, doneL s e = x := ⟨_, rfl⟩
    obtain ⟨r0, hr0⟩ : ∃ x, rootL s e (r : Int).toNat = x := ⟨_, rfl⟩
    obtain ⟨l0, hl0⟩ : ∃ l0 : Nat, 0 + cutLone s e = (l0 : Int) := ⟨(cutLone s e).toNat, by omega⟩
    rw [hS0, hr0, hl0] at HCu hok2
    rw [hS0] at hcp
    unfold refV at HCu ⊢
    have HE2 := Lib.hid (HE1.out.trans he2)
    have HOk := Lib.hid hok2
    have HPm := Lib.hid hcp
    have HR0 := Lib.hid hrt
    clear he2 ho2 HTr hT hok hcl hok2 hcp hS0 hr0 hl0 hrt HE1
    rw [hsl] at HCu ⊢
    clear hsl
    go_wp2_with fail
    refine HCu.out.mono ?_
    rintro z w3 ⟨a3, c3, rfl, he3, ho3⟩
    unfold refV
    have HE3 := Lib.hid (HE2.out.trans he3)
    have HO3 := Lib.hid ho3
    clear he3 ho3 HCu HE2
    obtain ⟨N3, hN3⟩ : ∃ x, S0.length = x := ⟨_, rfl⟩
    rw [hN3] at HO3 ⊢
    have HN3 := Lib.hid hN3
    clear hN3
    have hn3 := HE3.out.inv.none_of_ge (Nat.le_refl w3.heap.size)
    have hb3 := heap_alloc_new w3 (.cells #[.slice a3 N3 c3, .int .i64 r0, .int .i64 (l0 : Int)] 26)
    have he4 := HE3.out.alloc (.cells #[.slice a3 N3 c3, .int .i64 r0, .int .i64 (l0 : Int)] 26)
    have ho4 := HO3.out.alloc (.cells #[.slice a3 N3 c3, .int .i64 r0, .int .i64 (l0 : Int)] 26)
    go_upto_if 31 with fail
    obtain ⟨w4, hw4⟩ : ∃ x, w3.alloc (.cells #[.slice a3 N3 c3, .int .i64 r0, .int .i64 (l0 : Int)] 26) = x := ⟨_, rfl⟩
    obtain ⟨bx, hbx⟩ : ∃ x, w3.heap.size = x := ⟨_, rfl⟩
    rw [hw4] at hb3 he4 ho4 ⊢
    rw [hbx] at hn3 hb3 ⊢
    have HB4 := Lib.hid hb3
    have HN4 := Lib.hid hn3
    have HE4 := Lib.hid he4
    have HO4 := Lib.hid ho4
    have hlt := lt_of_block hb3
    have hbw : w.heap.size ≤ bx := by rw [← hbx]; exact HE3.out.size
    have HLt := Lib.hid hlt
    have HBw := Lib.hid hbw
    have HAn := Lib.hid (HAn.out _ _ he4)
    clear hn3 hb3 he4 ho4 hw4 hbx hlt hbw HE3 HO3
    go_cut [] (fun wx => ∃ (wn : World) (S : List Nat) (rt : Int) (l : Nat) (a : Option Addr) (c : Nat) (R' : Reg), wn = wx ∧ IsPerm S ∧ MapOk S rt (l : Int) ∧ Ev noReg w R' wn ∧ wn.heap[bx]? = some (.cells #[.slice a S.length c, .int .i64 rt, .int .i64 (l : Int)] 26 (0, 0)) ∧ R' bx = none ∧ FreeI R' wn (.slice a S.length c) (toI S))
    case first =>
      cases raw
      · go_wp2_with fail
        go_meet
        exact ⟨_, S0, r0, l0, a3, c3, _, rfl, HPm.out, HOk.out, HE4.out, by rw [HN3.out]; exact HB4.out, HN4.out, by rw [HN3.out]; exact HO4.out.free⟩
      · go_wp2_with fail
        refine HAn.out.mono ?_
        rintro z w5 ⟨a5, c5, rfl, he5, ho5⟩
        unfold refV
        have hb5 := (he5.block bx HLt.out HN4.out).trans HB4.out
        have HB5 := Lib.hid hb5
        obtain ⟨x0, x1, x2, xf⟩ := boxC_cells hb5
        have xf0 := xf 0
        have xf1 := xf 1
        have xf2 := xf 2
        have HE5 := Lib.hid (HE4.out.trans he5)
        have HO5 := Lib.hid ho5
        have hlen := mixL_length (2 * q) bs
        obtain ⟨S5, hS5⟩ : ∃ x, mixL (2 * q) bs = x := ⟨_, rfl⟩
        obtain ⟨r5, hr5⟩ : ∃ x, anyRoot q root = x := ⟨_, rfl⟩
        have hok5 := made_ok q root bs 0 (by omega) (by omega)
        have hp5 := mixL_perm (2 * q) bs
        rw [hS5] at hok5 hp5 hlen HO5 ⊢
        rw [hr5] at hok5 ⊢
        obtain ⟨N5, hN5⟩ : ∃ x, S5.length = x := ⟨_, rfl⟩
        rw [hN5] at HO5 ⊢
        have HN5 := Lib.hid hN5
        have HOk5 := Lib.hid hok5
        have HPm5 := Lib.hid hp5
        have hno : ∀ (i : Nat), (Value.slice a5 N5 c5).ownBlock ≠ some (⟨bx, i, none⟩ : Addr).block := fun i e => by
          have h1 := (HO5.out.lt _ e).1
          have h2 : (⟨bx, i, none⟩ : Addr).block = bx := rfl
          have := HLt.out
          omega
        have HNo := Lib.hid hno
        clear xf hb5 he5 ho5 hS5 hr5 hok5 hp5 hlen hN5 hno
        go_wp2_with fail
        go_meet
        exact ⟨_, S5, r5, 0, a5, c5, R1, rfl, HPm5.out, HOk5.out, ((HE5.out.setCell (p := ⟨bx, 0, none⟩) HBw.out HN4.out _).setCell (p := ⟨bx, 1, none⟩) HBw.out HN4.out _).setCell (p := ⟨bx, 2, none⟩) HBw.out HN4.out _, by rw [HN5.out]; exact set3 HB5.out, HN4.out, by rw [HN5.out]; exact (((HO5.out.setCell (HNo.out 0) _).setCell (HNo.out 1) _).setCell (HNo.out 2) _).free⟩
    case rest =>
      obtain ⟨wx, S, rt, l, a9, c9, R9, rfl, hS, hok, he9, hb9, hn9, hf9⟩ := hcut
      as_aux_lemma =>
        have HOf := Lib.hid (of14_any R9 wx he9.inv _ S rt (l : Int) hf9 hS hok)
        have HTb := Lib.hid (fun R' w' (h : Ev R9 wx R' w') => r8tri_any R' w' h.inv _ S rt l (hf9.ev h) hS hok.2.1 hok.1 (by have := hok.2.2.2.1; omega))
        have HX := Lib.hid (fun R' w' (h : Ev R9 wx R' w') => (boxC_cells (h.boxC3 hb9 hn9).1))
        obtain ⟨x0, x1, x2, -⟩ := boxC_cells hb9
        have HE9 := Lib.hid he9
        have HS := Lib.hid hS
        have HOk := Lib.hid hok
        unfold refV at HOf HTb
        obtain ⟨N, hN⟩ : ∃ N, S.length = N := ⟨_, rfl⟩
        rw [hN] at HOf HTb HX x0
        have HN := Lib.hid hN
        clear he9 hb9 hn9 hf9 hS hok hN HAn HE4 HO4 HB4 HN4 HR0 HPm
        go_wp2_with fail
        refine HOf.out.mono ?_
        rintro z w6 ⟨p, R6, rfl, he6, hp6⟩
        have HE6 := Lib.hid he6
        have HP6 := Lib.hid hp6
        clear he6 hp6 HOf x0 x1 x2
        cases htri : triB S l with
        | true =>
          obtain ⟨hT, hl⟩ := triS_of HS.out HOk.out.1 htri
          subst hl
          have hbig : 0 < S.length := by have h1 := hT.big; have h2 := sizesL_le HS.out; omega
          obtain ⟨r, hrr, hrl⟩ : ∃ r : Nat, rt = (r : Int) ∧ r < S.length := by
            have := HOk.out.2.2.2.2
            exact ⟨rt.toNat, by omega, by omega⟩
          subst hrr
          have hoR := order_right hT hrl
          have hol := order_len hT hrl
          have hVn : (sizesL S).length ≤ 131073 := by have h1 := sizesL_le HS.out; have h2 := HOk.out.2.1; omega
          have HOr := Lib.hid (sorder_any R6 w6 HE6.out.inv p S r HP6.out hT hrl)
          have HCo := Lib.hid (fun R' w' (h : Ev R6 w6 R' w') => corners_tri R' w' h.inv p S r (h.map HP6.out) hT hrl)
          have HRi := Lib.hid (fun R' w' (h : Ev R6 w6 R' w') (a0 : Option Addr) (c0 : Nat) (hv : FreeI R' w' (.slice a0 (sizesL S).length c0) (orderL S r)) => sright_any R' w' h.inv p S r (h.map HP6.out) hT hrl a0 _ c0 _ hv hol (by omega))
          rw [htri] at HTb
          obtain ⟨V, hV⟩ : ∃ V, (sizesL S).length = V := ⟨_, rfl⟩
          rw [hV] at HRi hol
          have HOl := Lib.hid hol
          have HOR := Lib.hid hoR
          clear hT hbig hrl hoR hol htri hVn hV
          go_wp2_with fail
          refine HOr.out.mono ?_
          rintro z w7 ⟨v7, R7, rfl, he7, ho7⟩
          obtain ⟨a7, c7, rfl, -⟩ := ho7.ints.open
          rw [HOl.out] at ho7 ⊢
          have HE7 := Lib.hid he7
          have HO7 := Lib.hid ho7
          clear he7 ho7 HOr
          go_wp2_with fail
          refine (HCo.out _ _ HE7.out).mono ?_
          rintro z w8 ⟨v8, R8, rfl, he8, ho8⟩
          have HE8 := Lib.hid (HE7.out.trans he8)
          have HO8 := Lib.hid (HO7.out.ev he8)
          clear he8 ho8 HCo
          have HSn := Lib.hid (fun w' => sorder_nil w')
          have HCn := Lib.hid (fun w' => corners_nil w')
          have HRn := Lib.hid (fun R' w' (h : Ev R6 w6 R' w') v => sright_nil R' w' h.inv v)
          go_wp2_with fail
          refine (HSn.out _).mono ?_
          rintro z w9 ⟨rfl, rfl⟩
          go_wp2_with fail
          refine (HCn.out _).mono ?_
          rintro z w9 ⟨rfl, rfl⟩
          go_wp2_with fail
          refine (HRn.out _ _ HE8.out _).mono ?_
          rintro z w9 ⟨rfl, R9', he9'⟩
          have HE9' := Lib.hid (HE8.out.trans he9')
          have HO9 := Lib.hid (HO8.out.ev he9')
          clear he9'
          obtain ⟨x0, x1, x2, -⟩ := HX.out _ _ (HE6.out.trans HE9'.out)
          have HTc := Lib.hid (HTb.out _ _ (HE6.out.trans HE9'.out))
          go_wp2_with fail
          refine HTc.out.mono ?_
          rintro z w10 ⟨rfl, he10⟩
          have HE10 := Lib.hid (HE9'.out.trans he10)
          have HO10 := Lib.hid (HO9.out.ev he10)
          have HRc := Lib.hid (HRi.out _ _ HE10.out a7 c7 HO10.out.free)
          clear he10 x0 x1 x2
          go_wp2_with fail
          refine HRc.out.mono ?_
          rintro z w11 ⟨bb, R11, rfl, hbb, he11⟩
          have hbt := hbb.2 HOR.out
          subst hbt
          have HE11 := Lib.hid (HE9.out.trans (HE6.out.trans (HE10.out.trans he11)))
          clear he11 hbb
          go_wp2_with fail
          go_ret
          exact ⟨by first | rfl | (simp; done), R11, HE11.out⟩
        | false =>
          rw [htri] at HTb
          have HOr := Lib.hid (sorder_no R6 w6 HE6.out.inv p S rt l HP6.out htri)
          have HCo := Lib.hid (fun R' w' (h : Ev R6 w6 R' w') => corners_no R' w' h.inv p S rt l (h.map HP6.out) htri)
          have HRi := Lib.hid (fun R' w' (h : Ev R6 w6 R' w') v => sright_no R' w' h.inv p S rt l (h.map HP6.out) htri v)
          have HSn := Lib.hid (fun w' => sorder_nil w')
          have HCn := Lib.hid (fun w' => corners_nil w')
          have HRn := Lib.hid (fun R' w' (h : Ev R6 w6 R' w') v => sright_nil R' w' h.inv v)
          clear htri
          go_wp2_with fail
          refine HOr.out.mono ?_
          rintro z w7 ⟨rfl, R7, he7⟩
          have HE7 := Lib.hid he7
          clear he7 HOr
          go_wp2_with fail
          refine (HCo.out _ _ HE7.out).mono ?_
          rintro z w8 ⟨rfl, R8, he8⟩
          have HE8 := Lib.hid (HE7.out.trans he8)
          clear he8 HCo
          go_wp2_with fail
          refine (HSn.out _).mono ?_
          rintro z w9 ⟨rfl, rfl⟩
          go_wp2_with fail
          refine (HCn.out _).mono ?_
          rintro z w9 ⟨rfl, rfl⟩
          go_wp2_with fail
          refine (HRn.out _ _ HE8.out _).mono ?_
          rintro z w9 ⟨rfl, R9', he9'⟩
          have HE9' := Lib.hid (HE8.out.trans he9')
          clear he9'
          obtain ⟨x0, x1, x2, -⟩ := HX.out _ _ (HE6.out.trans HE9'.out)
          have HTc := Lib.hid (HTb.out _ _ (HE6.out.trans HE9'.out))
          go_wp2_with fail
          refine HTc.out.mono ?_
          rintro z w10 ⟨rfl, he10⟩
          have HE10 := Lib.hid (HE9'.out.trans he10)
          clear he10 x0 x1 x2
          have HE10 := Lib.hid (HE10.out.alloc (.cells #[.int .i64 0, .int .i64 1, .int .i64 2] 3))
          have HRc := Lib.hid (HRi.out _ _ HE10.out (.slice (some ⟨w10.heap.size, 0, none⟩) 3 3))
          simp only [nilS]
          go_wp2_with fail
          refine HRc.out.mono ?_
          rintro z w11 ⟨rfl, R11, he11⟩
          have HE11 := Lib.hid (HE9.out.trans (HE6.out.trans (HE10.out.trans he11)))
          clear he11
          go_wp2_with fail
          go_ret
          exact ⟨by first | rfl | (simp; done), R11, HE11.out⟩
end Go.Proofs.YtcnmbenfnpjkjaaGreat
