/- canon.roots. Conditions: the map is registered. perm.One. Conditions: not below nought, not too great. dual.Relabel. Conditions: the map and the names are registered. Package dual at no map; parquetrylaw10.DualNil, the walk: it answers true. Conditions: none. parquetrylaw10.DualCuts, the walk: it answers true. Conditions: the bytes lie in memory. Cut, a planar map stays planar. Plain law. Conditions: the list is a turn, the edge is there. -/
import Derived.Test.YtklkgicjfnbndaaGreatZScriptSizes32
import Derived.Test.YtklkgicjfnbndaaGreatZScriptSizes20
import Derived.Test.YtklkgicjfnbndaaGreatZScriptSizes33
import Derived.Test.YtklkgicjfnbndaaGreatZScriptSizes24
import Derived.Test.YtklkgicjfnbndaaGreatZScriptSizes25
import Derived.Test.YtklkgicjfnbndaaGreatZScriptSizes27
import Derived.Test.YtklkgicjfnbndaaGreatZScriptSizes30
import Derived.BigQuiet
namespace Go.Proofs.YtklkgicjfnbndaaGreat
open Go.RowKit
set_option linter.unusedVariables false

/-- one's own row comes back, the registry goes on -/
def RetOwnR (R : Reg) (w : World) (xs : List Int) (e : Ending) (w' : World) : Prop := ∃ v R', e = .returned v ∧ Ev R w R' w' ∧ OwnI R' w.heap.size 3 w' v xs
theorem OwnI.lit {R : Reg} {W : World} {B : Nat} (hI : Inv R W) (hB : B ≤ W.heap.size) (y : Int) : OwnI R B 3 (W.alloc (.cells #[.int .i64 y] 3)) (.slice (some ⟨W.heap.size, 0, none⟩) 1 1) [y] := by
  have h := World.ownsRow_lit (base := B) (e := 3) (size := 1) W #[.int .i64 y] 1 hB (by simp [maxLen]) rfl
  refine ⟨by simpa using h, fun k hk => ?_⟩
  simp only [Value.ownBlock, Option.some.injEq] at hk
  rw [← hk]
  exact hI.none_of_ge (Nat.le_refl _)

theorem roots_none (R : Reg) (w : World) (hI : Inv R w) (p : Value) (s : List Nat) (root lone : Int) (hp : MapAt R p s root lone) (h0 : s.length = 0) :
    Calls Tryz.prog 137 #[p] w fun e w' => e = .returned (.slice none 0 0) ∧ w = w' := by
  have hd := darts_any R w hI p s root lone hp
  rw [h0] at hd
  have HD := Lib.hid hd
  clear hd hI hp
  go_enter Tryz.func137, Tryz.ntmps137
  go_wp2_with fail
  refine HD.out.mono ?_
  rintro e w' ⟨rfl, rfl⟩
  go_wp2_with fail
  go_ret
  exact ⟨rfl, rfl⟩

set_option maxRecDepth 100000 in
set_option maxHeartbeats 2000000 in
theorem roots_some (R : Reg) (w : World) (hI : Inv R w) (p : Value) (s : List Nat) (root lone : Nat) (hp : MapAt R p s (root : Int) lone) (hr : root < s.length) :
    Calls Tryz.prog 137 #[p] w (RetOwnR R w (toI (rootsL s root))) := by
  obtain ⟨hs, hok⟩ := hp.ok hI
  have he2 : s.length % 2 = 0 := hok.1
  have hn : s.length ≤ 131073 := hok.2.1
  have hlone : lone ≤ 65536 := by have := hok.2.2; omega
  have hpn := partsN_le hs he2
  have HD := Lib.hid (darts_any R w hI p s root lone hp)
  have HNm := Lib.hid (enames_any R w hI p s root lone hp)
  have HRt := Lib.hid (fun R' w' (he : Ev R w R' w') => root_any R' w' he.inv p s root lone (he.map hp))
  have HP := Lib.hid (fun R' w' (he : Ev R w R' w') => eparts_any R' w' he.inv p s root lone (he.map hp))
  have hpl := partsL_length hs he2
  have hall := rootsP_all hs he2 hr lone
  have hcl : partsN s + lone ≤ 300000 := by omega
  have hpr : Hid (∀ i, (partsF s i).root = if i < partsN s then ((rootOf (partsL s) (i : Int) : Nat) : Int) else -1) := Lib.hid (fun i => by
    unfold partsF
    split <;> rfl)
  have hsuc := Lib.hid (rootsP_succ s (nth (partsL s) root))
  have hz := rootsP_succ s (nth (partsL s) root)
  have hle : Hid (∀ i, (rootsP s (nth (partsL s) root) i).length ≤ i) := Lib.hid (fun i => by
    unfold rootsP
    rw [List.length_map]
    have := List.length_filter_le (fun (k : Nat) => decide ((k : Int) ≠ nth (partsL s) root ∧ k < partsN s)) (List.range i)
    rwa [List.length_range] at this)
  have hr0 : Hid (rootsP s (nth (partsL s) root) 0 = []) := Lib.hid rfl
  have HA := Lib.hid (show rootsL s root = root :: rootsP s (nth (partsL s) root) (partsN s + lone) by rw [hall]; rfl)
  obtain ⟨n, hln⟩ : ∃ n, s.length = n := ⟨_, rfl⟩
  rw [hln] at HD hr hpl
  obtain ⟨C, hC⟩ : ∃ C, partsN s + lone = C := ⟨_, rfl⟩
  rw [hC] at HP HA hcl
  obtain ⟨f, hf⟩ : ∃ f, nth (partsL s) root = f := ⟨_, rfl⟩
  rw [hf] at hsuc hle hr0 HA
  have hnb : ((n : Int) == 0) = false := by simp; omega
  have HPl := Lib.hid hpl
  have HF := Lib.hid hf
  clear hI hp hs hok hpl hall hz hln hC hf he2 hn hlone hpn
  go_enter Tryz.func137, Tryz.ntmps137
  go_wp2_with fail
  refine HD.out.mono ?_
  rintro e w' ⟨rfl, rfl⟩
  go_wp2_with fail
  refine HNm.out.mono ?_
  rintro e w1 ⟨v1, rfl, he1, ho1⟩
  obtain ⟨a1, c1, rfl, _⟩ := ho1.ints.open
  rw [HPl.out] at ho1 ⊢
  obtain ⟨g1, rfl, _, _, k0, _⟩ := ho1.headAt HPl.out hr
  rw [HF.out] at k0
  have HE1 := Lib.hid he1
  clear he1 ho1 HNm
  go_wp2_with fail
  refine (HRt.out _ _ HE1.out).mono ?_
  rintro e w' ⟨rfl, rfl⟩
  go_wp2_with fail
  refine (HRt.out _ _ HE1.out).mono ?_
  rintro e w' ⟨rfl, rfl⟩
  have HE2 := Lib.hid (HE1.out.alloc (.cells #[.int .i64 (root : Int)] 3))
  have HO2 := Lib.hid (OwnI.lit (B := w.heap.size) HE1.out.inv HE1.out.size (root : Int))
  clear k0
  go_wp2_with fail
  refine (HP.out _ _ HE2.out).mono ?_
  rintro e w3 ⟨v3, R3, rfl, he3, a3, c3, rfl, ho3⟩
  have HE3 := Lib.hid (HE2.out.trans he3)
  have HO3 := Lib.hid ho3
  have HO2 := Lib.hid (HO2.out.ev he3)
  clear he3 ho3
  go_wp2_with fail
  go_loopg [5, 24] C (fun gg v5 v24 wr => ∃ (i : Nat) (a : Option Addr) (l c : Nat), i ≤ C ∧ C - i ≤ gg ∧ v24 = .int .i64 (i : Int) ∧ v5 = .slice a l c ∧ l = (rootsP s f i).length + 1 ∧ Ev R w R3 wr ∧ OwnI R3 w.heap.size 3 wr (.slice a l c) (toI (root :: rootsP s f i)) ∧ OwnV R3 (w1.alloc (.cells #[.int .i64 (root : Int)] 3)).heap.size 106 5 wr (.slice a3 C c3) C (flatF (partsF s) C) ∧ ∀ k, (Value.slice a l c).ownBlock = some k → (Value.slice a3 C c3).ownBlock ≠ some k)
  case atStart =>
    refine ⟨0, _, 1, 1, by omega, by omega, rfl, rfl, by rw [hr0.out]; rfl, HE3.out, by rw [hr0.out]; exact HO2.out, HO3.out, fun k hk h => ?_⟩
    have h1 := (HO3.out.lt k h).1
    simp [Value.ownBlock] at hk h1
    omega
  case round =>
    obtain ⟨i, a, l, c, hi, hg, rfl, rfl, hl, hev, ho, hv, hd⟩ := hrel
    have HEv := Lib.hid hev
    have HO := Lib.hid ho
    have HV := Lib.hid hv
    have HDs := Lib.hid hd
    have HL := Lib.hid hl
    clear hev ho hv hd hl
    by_cases hil : i < C
    · have hfr := hpr.out i
      have hsu := hsuc.out i
      have hlb := hle.out i
      obtain ⟨gb, e1, _, _, d0, _⟩ := HV.out.headAt (i := i * 5) (by rw [flatF_length]; omega)
      subst e1
      obtain ⟨_, e1, _, _, d1, _⟩ := HV.out.headAt (i := i * 5 + 1) (by rw [flatF_length]; omega)
      cases e1
      obtain ⟨_, e1, _, _, d2, _⟩ := HV.out.headAt (i := i * 5 + 2) (by rw [flatF_length]; omega)
      cases e1
      obtain ⟨_, e1, _, _, d3, _⟩ := HV.out.headAt (i := i * 5 + 3) (by rw [flatF_length]; omega)
      cases e1
      obtain ⟨_, e1, _, _, d4, _⟩ := HV.out.headAt (i := i * 5 + 4) (by rw [flatF_length]; omega)
      cases e1
      have dd0 := d0.trans (flatF_get (f := partsF s) (k := i) (c := 0) (by omega) hil)
      clear d0
      rw [flatF_get (by omega) hil] at d1 d2 d3 d4
      obtain ⟨P, hP⟩ : ∃ P, partsF s i = P := ⟨_, rfl⟩
      rw [hP] at dd0 d1 d2 d3 d4 hfr
      obtain ⟨pr, pv, pe, pb, pg⟩ := P
      have k0 : wr.cell? ⟨gb, i * 5, none⟩ = some (.int .i64 pr) := dd0
      have k1 : wr.cell? ⟨gb, i * 5 + 1, none⟩ = some (.int .i64 pv) := d1
      have k2 : wr.cell? ⟨gb, i * 5 + 2, none⟩ = some (.int .i64 pe) := d2
      have k3 : wr.cell? ⟨gb, i * 5 + 3, none⟩ = some (.int .i64 pb) := d3
      have k4 : wr.cell? ⟨gb, i * 5 + 4, none⟩ = some (.int .i64 pg) := d4
      have hfq : pr = if i < partsN s then ((rootOf (partsL s) (i : Int) : Nat) : Int) else -1 := hfr
      clear hfr dd0 d1 d2 d3 d4 hP
      have HEa := Lib.hid (HEv.out.alloc (.cells #[.int .i64 pr, .int .i64 pv, .int .i64 pe, .int .i64 pb, .int .i64 pg] 106))
      have HOa := Lib.hid (HO.out.alloc (.cells #[.int .i64 pr, .int .i64 pv, .int .i64 pe, .int .i64 pb, .int .i64 pg] 106))
      have HVa := Lib.hid (HV.out.alloc (.cells #[.int .i64 pr, .int .i64 pv, .int .i64 pe, .int .i64 pb, .int .i64 pg] 106))
      by_cases hif : (i : Int) = f
      · have hb1 : ((i : Int) != f) = false := by simp [hif]
        rw [if_neg (fun k => k.1 hif)] at hsu
        have HSu := Lib.hid hsu
        clear hsu hif hfq
        go_wp2_with fail
        go_roundg (C - (i + 1))
        case measure => omega
        case rel => exact ⟨i + 1, a, l, c, by omega, by omega, by go_num, rfl, by rw [HSu.out]; exact HL.out, HEa.out, by rw [HSu.out]; exact HOa.out, HVa.out, HDs.out⟩
      · have hb1 : ((i : Int) != f) = true := by simp [hif]
        by_cases hip : i < partsN s
        · rw [if_pos hip] at hfq
          rw [if_pos ⟨hif, hip⟩] at hsu
          obtain ⟨q, hq⟩ : ∃ q, rootOf (partsL s) (i : Int) = q := ⟨_, rfl⟩
          rw [hq] at hfq hsu
          subst hfq
          have HSu := Lib.hid hsu
          have hb2 : decide ((0 : Int) ≤ (q : Int)) = true := by simp
          clear hsu hif hq hip
          have HEb := Lib.hid (HEa.out.alloc (.cells #[.int .i64 (q : Int)] 3))
          have HOb := Lib.hid (HOa.out.alloc (.cells #[.int .i64 (q : Int)] 3))
          have HVb := Lib.hid (HVa.out.alloc (.cells #[.int .i64 (q : Int)] 3))
          have hLl : Hid ((toI (root :: rootsP s f i)).length = l) := Lib.hid (by rw [toI_length, List.length_cons, HL.out])
          go_wp2_with (at_builtin; refine wpList_app_int (R := R3) (B := w.heap.size) rfl _ _ rfl HOb.out rfl ⟨wr.heap.size + 1, 0, none⟩ 1 (q : Int) ?a0 ?a1 ?a2 ?a3 ?a4 ?_)
          case a0 => first | rfl | simp
          case a1 => first | rfl | simp
          case a2 => have := hLl.out; have := HL.out; omega
          case a3 => have := HEb.out.size; first | exact this | (simp at this ⊢; omega)
          case a4 => exact fun q hq => HEb.out.inv.none_of_ge (by first | exact hq | (simp at hq ⊢; omega))
          intro v8 w8 ho8 hg8 hs8
          obtain ⟨a8, c8, rfl, _⟩ := ho8.ints.open
          have hl8 : (toI (root :: rootsP s f i) ++ [(q : Int)]).length = l + 1 := by rw [List.length_append, hLl.out]; rfl
          have hx8 : toI (root :: rootsP s f i) ++ [(q : Int)] = toI (root :: rootsP s f (i + 1)) := by rw [HSu.out]; simp [toI]
          rw [hl8] at ho8 hs8 ⊢
          rw [hx8] at ho8
          have HE8 := Lib.hid (HEb.out.app HOb.out (Nat.le_refl _) hg8)
          have HO8 := Lib.hid ho8
          have HV8 := Lib.hid (HVb.out.kept hg8 (dis_neI (u := .slice a l c) HDs.out))
          have HD8 : Hid (∀ k, (Value.slice a8 (l + 1) c8).ownBlock = some k → (Value.slice (some ⟨gb, 0, none⟩) C c3).ownBlock ≠ some k) := Lib.hid fun k hk h => by
            rcases hs8 k hk with h1 | h1
            · exact HDs.out k h1 h
            · have h2 := (HVb.out.lt k h).2
              simp at h1 h2
              omega
          clear ho8 hg8 hs8 hl8 hx8
          go_wp2_with fail
          go_roundg (C - (i + 1))
          case measure => omega
          case rel => exact ⟨i + 1, a8, l + 1, c8, by omega, by omega, by go_num, rfl, by rw [HSu.out, List.length_append, List.length_singleton, HL.out], HE8.out, HO8.out, HV8.out, HD8.out⟩
        · rw [if_neg hip] at hfq
          rw [if_neg (fun k => hip k.2)] at hsu
          subst hfq
          have HSu := Lib.hid hsu
          have hb2 : decide ((0 : Int) ≤ -1) = false := by decide
          clear hsu hif hip
          go_wp2_with fail
          go_roundg (C - (i + 1))
          case measure => omega
          case rel => exact ⟨i + 1, a, l, c, by omega, by omega, by go_num, rfl, by rw [HSu.out]; exact HL.out, HEa.out, by rw [HSu.out]; exact HOa.out, HVa.out, HDs.out⟩
    · obtain rfl : i = C := by omega
      go_wp2_with fail
      go_ret
      exact ⟨_, R3, rfl, HEv.out, by rw [HA.out]; exact HO.out⟩

end Go.Proofs.YtklkgicjfnbndaaGreat

namespace Go.Proofs.YtklkgicjfnbndaaGreat
open Go.RowKit
set_option linter.unusedVariables false


end Go.Proofs.YtklkgicjfnbndaaGreat

namespace Go.Proofs.YtklkgicjfnbndaaGreat
open Go.RowKit
set_option linter.unusedVariables false

set_option maxRecDepth 100000 in
set_option maxHeartbeats 4000000 in
theorem relabel_yes (R : Reg) (w : World) (hI : Inv R w) (p q : Value) (s t : List Nat) (root lone : Int) (hp : MapAt R p s root lone) (hq : PermAt R q t) (ht : IsPerm t) (hl : t.length = s.length) (hm : Mates t) :
    Calls Tryz.prog 139 #[p, q] w (NewYes R w (relL s t) (atI t root) lone) := by
  obtain ⟨hS, hok⟩ := hp.ok hI
  have hn0 := hok.2.1
  have hev := hok.1
  have HDt := Lib.hid (fun R' w' (he : Ev R w R' w') => darts_any R' w' he.inv p s root lone (he.map hp))
  have HRt := Lib.hid (fun R' w' (he : Ev R w R' w') => root_any R' w' he.inv p s root lone (he.map hp))
  have HLn := Lib.hid (fun R' w' (he : Ev R w R' w') => lone_any R' w' he.inv p s root lone (he.map hp))
  have HSg := Lib.hid (fun R' w' (he : Ev R w R' w') (d : Nat) (hd : d < s.length) => (by
    have := sigma_any R' w' he.inv p s root lone (he.map hp) (d : Int)
    rw [atI_in hd] at this
    exact this : Calls Tryz.prog 58 #[p, .int .i64 (d : Int)] w' _))
  have HQl := Lib.hid (fun R' w' (he : Ev R w R' w') => len_any R' w' he.inv q t (he.perm hq))
  have HQr := Lib.hid (fun R' w' (he : Ev R w R' w') => at_any R' w' he.inv q t (he.perm hq) root)
  have HQa := Lib.hid (fun R' w' (he : Ev R w R' w') (d : Nat) (hd : d < s.length) => (by
    have := at_any R' w' he.inv q t (he.perm hq) (d : Int)
    rw [atI_in (by rw [hl]; exact hd)] at this
    exact this : Calls Tryz.prog 91 #[q, .int .i64 (d : Int)] w' _))
  have HMt := Lib.hid hm
  have HAl := Lib.hid (relGo_all ht hl)
  have HSt := Lib.hid (fun i (hi : i < s.length) => relGo_set ht hl hi)
  have HSl := Lib.hid (fun i (hi : i < s.length) => hS.lt hi)
  have HTl := Lib.hid (fun i (hi : i < s.length) => (by have := ht.lt (i := i) (by rw [hl]; exact hi); omega : at' t i < s.length))
  have HNy := Lib.hid (fun R' w' (hI' : Inv R' w') v (hv : FreeI R' w' v (toI (relL s t))) => new_yes R' w' hI' v (relL s t) hv (atI t root) lone (relL_perm hS ht hl) (relRoot hok ht hl))
  have HRl := Lib.hid (fun i => relGo_length s t i)
  have HRz := Lib.hid (relGo_zero s t)
  have HI := Lib.hid hI
  obtain ⟨b, rfl, _⟩ := hp
  obtain ⟨c, rfl, _⟩ := hq
  obtain ⟨n, hln⟩ : ∃ n, s.length = n := ⟨_, rfl⟩
  have HTn := Lib.hid (hl.trans hln)
  rw [hl] at HQl
  rw [hln] at HDt HSg HQl HQa HAl HSt HSl HTl HRl HRz hn0 hev
  obtain ⟨i0, hi, hz0, hz1, hz2⟩ := info_parts int_info
  have hbn : ((n : Int) != (n : Int)) = false := by simp
  clear hI hS hok ht hl hm hln
  go_enter Tryz.func139, Tryz.ntmps139
  go_wp2_with fail
  refine (HQl.out _ _ (Ev.refl HI.out)).mono ?_
  rintro e w' ⟨rfl, rfl⟩
  go_wp2_with fail
  refine (HDt.out _ _ (Ev.refl HI.out)).mono ?_
  rintro e w' ⟨rfl, rfl⟩
  go_wp2_with (first | (go_at_call 18; refine (HDt.out _ _ (Ev.refl HI.out)).mono ?_; rintro e w' ⟨rfl, rfl⟩) | (refine wpList_make_full _ rfl _ _ 25 rfl w.heap.size 3 i0 (.int .i64 0) 1 Tryz.underlying25 hi hz0 hz1 .i64 .i64 (n : Int) (n : Int) n rfl rfl rfl rfl ?q1 ?q2 (Nat.le_refl _) ?_))
  case q1 => rw [hz2]; omega
  case q2 => unfold maxLen; omega
  intro w1 ho1 hg1
  have hown : OwnI R w.heap.size 3 w1 (.slice (some ⟨w.heap.size, 0, none⟩) n n) (relGo s t 0) := by rw [HRz.out]; exact OwnI.made HI.out ho1
  have he1 : Ev R w R w1 := (Ev.refl HI.out).grown hg1 (by simp)
  have HO1 := Lib.hid hown
  have HE1 := Lib.hid he1
  clear ho1 hg1 hown he1
  go_wp2_with fail
  obtain ⟨g6, hg6⟩ : ∃ g, w.heap.size = g := ⟨_, rfl⟩
  rw [hg6] at HO1 ⊢
  have HG6 := Lib.hid hg6
  go_loopg [26] n (fun g v26 wr => ∃ (i : Nat), i ≤ n ∧ n - i ≤ g ∧ v26 = .int .i64 (i : Int) ∧ Ev R w R wr ∧ OwnI R g6 3 wr (.slice (some ⟨g6, 0, none⟩) n n) (relGo s t i) ∧ ∀ d, d < i → at' t (d ^^^ 1) = at' t d ^^^ 1)
  case atStart => exact ⟨0, Nat.zero_le _, by omega, rfl, HE1.out, HO1.out, fun d hd => by omega⟩
  case round =>
    obtain ⟨i, hin, hg, rfl, he, ho, hall⟩ := hrel
    have HE := Lib.hid he
    have HO := Lib.hid ho
    have HAa := Lib.hid hall
    clear he ho hall
    by_cases hil : i < n
    · have hx1 := xor_one_lt hev hil
      have hxor : bits .xor .i64 (i : Int) 1 = ((i ^^^ 1 : Nat) : Int) := xor_one_i64 (by omega)
      have h1 := HTl.out i hil
      have h2 := HTl.out (i ^^^ 1) hx1
      have HA1 := Lib.hid (HQa.out R wr HE.out i hil)
      have HA2 := Lib.hid (HQa.out R wr HE.out (i ^^^ 1) hx1)
      obtain ⟨j, hj⟩ : ∃ j, i ^^^ 1 = j := ⟨_, rfl⟩
      have HJ := Lib.hid hj
      rw [hj] at hxor HA2 h2 hx1
      obtain ⟨ti, hti⟩ : ∃ k, at' t i = k := ⟨_, rfl⟩
      obtain ⟨tj, htj⟩ : ∃ k, at' t j = k := ⟨_, rfl⟩
      have HTi := Lib.hid hti
      have HTj := Lib.hid htj
      rw [hti] at HA1 h1
      rw [htj] at HA2 h2
      have hxor2 : bits .xor .i64 (ti : Int) 1 = ((ti ^^^ 1 : Nat) : Int) := xor_one_i64 (by omega)
      obtain ⟨tm, htm⟩ : ∃ j, ti ^^^ 1 = j := ⟨_, rfl⟩
      have HTm := Lib.hid htm
      rw [htm] at hxor2
      clear hj hti htj htm
      by_cases hmm : tj = tm
      · have hbm : ((tj : Int) != (tm : Int)) = false := by rw [hmm]; simp
        have hsl := HSl.out i hil
        have HSg1 := Lib.hid (HSg.out R wr HE.out i hil)
        have HA3 := Lib.hid (HQa.out R wr HE.out (at' s i) hsl)
        have hst := HSt.out i hil
        rw [HTi.out] at hst
        obtain ⟨si, hsi⟩ : ∃ k, at' s i = k := ⟨_, rfl⟩
        rw [hsi] at HSg1 HA3 hst
        obtain ⟨y, hy⟩ : ∃ k, at' t si = k := ⟨_, rfl⟩
        rw [hy] at HA3 hst
        have HSt2 := Lib.hid hst
        obtain ⟨_, e6, hB6, hR6, hc6, hz6⟩ := HO.out.headAt (HRl.out i) h1
        cases e6
        have hput := HO.out.put (HRl.out i) ti h1 ((y : Nat) : Int)
        rw [HSt2.out] at hput
        have HPut := Lib.hid hput
        clear hst hsi hy hput hmm
        go_wp2_with fail
        refine HA2.out.mono ?_
        rintro e w' ⟨rfl, rfl⟩
        go_wp2_with fail
        refine HA1.out.mono ?_
        rintro e w' ⟨rfl, rfl⟩
        go_wp2_with fail
        refine HA1.out.mono ?_
        rintro e w' ⟨rfl, rfl⟩
        go_wp2_with fail
        refine HSg1.out.mono ?_
        rintro e w' ⟨rfl, rfl⟩
        go_wp2_with fail
        refine HA3.out.mono ?_
        rintro e w' ⟨rfl, rfl⟩
        go_wp2_with fail
        go_roundg (n - (i + 1))
        case measure => omega
        case rel => exact ⟨i + 1, by omega, by omega, by go_num, HE.out.setCell (by show w.heap.size ≤ g6; rw [HG6.out]; exact Nat.le_refl _) hR6 _, HPut.out, fun d hd => by
          by_cases e : d = i
          · subst e
            rw [HJ.out, HTj.out, HTi.out, HTm.out]
            have h9 := hbm
            simp at h9
            omega
          · exact HAa.out d (by omega)⟩
      · exfalso
        have := HMt.out i (by rw [HTn.out]; exact hil)
        rw [HJ.out, HTj.out, HTi.out, HTm.out] at this
        exact hmm this
    · obtain rfl : i = n := by omega
      have ho := HO.out
      rw [HAl.out] at ho
      have HOf := Lib.hid ho.free
      have HNw := Lib.hid (HNy.out R wr HE.out.inv _ HOf.out)
      clear ho
      go_wp2_with fail
      refine (HRt.out _ _ HE.out).mono ?_
      rintro e w' ⟨rfl, rfl⟩
      go_wp2_with fail
      refine (HQr.out _ _ HE.out).mono ?_
      rintro e w' ⟨rfl, rfl⟩
      go_wp2_with fail
      refine (HLn.out _ _ HE.out).mono ?_
      rintro e w' ⟨rfl, rfl⟩
      go_wp2_with fail
      refine HNw.out.mono ?_
      rintro e w5 ⟨q, R5, rfl, he5, hq5⟩
      have HE5 := Lib.hid (HE.out.trans he5)
      have HQ5 := Lib.hid hq5
      clear he5 hq5
      go_wp2_with fail
      go_ret2
      exact ⟨_, R5, rfl, HE5.out, HQ5.out⟩

end Go.Proofs.YtklkgicjfnbndaaGreat

namespace Go.Proofs.YtklkgicjfnbndaaGreat
open Go.RowKit
set_option linter.unusedVariables false

end Go.Proofs.YtklkgicjfnbndaaGreat

namespace Go.Proofs.YtklkgicjfnbndaaGreat
open Go.RowKit
set_option linter.unusedVariables false

theorem dof_out (R : Reg) (w : World) (hI : Inv R w) (p : Value) (s : List Nat) (root lone : Int) (hp : MapAt R p s root lone) (e : Int) (he : ¬ (0 ≤ e ∧ e < ((s.length / 2 : Nat) : Int))) :
    Calls Tryz.prog 64 #[p, .int .i64 e] w fun z w' => z = .returned (.tuple #[.pointer none, .int .i64 1]) ∧ w = w' := by
  have HEg := Lib.hid (edges_any R w hI p s root lone hp)
  obtain ⟨b, rfl, hb⟩ := hp
  obtain ⟨E, hE⟩ : ∃ E, s.length / 2 = E := ⟨_, rfl⟩
  rw [hE] at HEg he
  clear hI hb hE
  by_cases h0 : e < 0
  · go_enter Tryz.func64, Tryz.ntmps64
    go_wp2_with fail
    go_ret2
    exact ⟨rfl, rfl⟩
  · have h1 : (E : Int) ≤ e := by omega
    clear he
    go_enter Tryz.func64, Tryz.ntmps64
    go_wp2_with (first | (go_at_call 21; refine HEg.out.mono ?_; rintro z w' ⟨rfl, rfl⟩))
    all_goals (try go_ret2)
    all_goals exact ⟨rfl, rfl⟩
theorem dcut_out (R : Reg) (w : World) (hI : Inv R w) (p : Value) (s : List Nat) (root lone : Int) (hp : MapAt R p s root lone) (e : Int) (he : ¬ (0 ≤ e ∧ e < ((s.length / 2 : Nat) : Int))) :
    Calls Tryz.prog 22 #[p, .int .i64 e] w fun z w' => z = .returned (.tuple #[.pointer none, .int .i64 1]) ∧ w = w' := by
  have HO := Lib.hid (dof_out R w hI p s root lone hp e he)
  clear hI hp he
  go_enter Tryz.func22, Tryz.ntmps22
  go_wp2_with fail
  refine HO.out.mono ?_
  rintro e w' ⟨rfl, rfl⟩
  go_wp2_with fail
  go_ret2
  exact ⟨rfl, rfl⟩
theorem dshrink_out (R : Reg) (w : World) (hI : Inv R w) (p : Value) (s : List Nat) (root lone : Int) (hp : MapAt R p s root lone) (e : Int) (he : ¬ (0 ≤ e ∧ e < ((s.length / 2 : Nat) : Int))) :
    Calls Tryz.prog 20 #[p, .int .i64 e] w fun z w' => z = .returned (.tuple #[.pointer none, .int .i64 1]) ∧ w = w' := by
  have HO := Lib.hid (dof_out R w hI p s root lone hp e he)
  clear hI hp he
  go_enter Tryz.func20, Tryz.ntmps20
  go_wp2_with fail
  refine HO.out.mono ?_
  rintro e w' ⟨rfl, rfl⟩
  go_wp2_with fail
  go_ret2
  exact ⟨rfl, rfl⟩
set_option maxRecDepth 100000 in
set_option maxHeartbeats 1000000 in
theorem dshrink_loop (R : Reg) (w : World) (hI : Inv R w) (p : Value) (s : List Nat) (root lone : Int) (hp : MapAt R p s root lone) (e : Nat) (he : e < s.length / 2) (hnn : nth (namesL s) (2 * e) = nth (namesL s) (2 * e + 1)) :
    Calls Tryz.prog 20 #[p, .int .i64 (e : Int)] w fun z w' => z = .returned (.tuple #[.pointer none, .int .i64 8]) ∧ ∃ R', Ev R w R' w' := by
  obtain ⟨hS, hok⟩ := hp.ok hI
  have hn := hok.2.1
  have hev := hok.1
  have HOf := Lib.hid (dof_any R w hI p s root lone hp e he)
  have HVx := Lib.hid (fun R' w' (hee : Ev R w R' w') (d : Nat) (hd : d < s.length) => (by
    have := vertex_any R' w' hee.inv p s root lone (hee.map hp) (d : Int)
    rw [nameI_in hd] at this
    exact this : Calls Tryz.prog 65 #[p, .int .i64 (d : Int)] w' _))
  have hw2 : IntKind.i64.wrap (2 * (e : Int)) = ((2 * e : Nat) : Int) := by rw [show 2 * (e : Int) = ((2 * e : Nat) : Int) by omega]; exact IntWalk.i64_in _ (by omega)
  have hw3 : IntKind.i64.wrap (((2 * e : Nat) : Int) + 1) = ((2 * e + 1 : Nat) : Int) := by rw [show ((2 * e : Nat) : Int) + 1 = ((2 * e + 1 : Nat) : Int) by omega]; exact IntWalk.i64_in _ (by omega)
  obtain ⟨n0, hn0⟩ : ∃ x, nth (namesL s) (2 * e) = x := ⟨_, rfl⟩
  obtain ⟨n1, hn1⟩ : ∃ x, nth (namesL s) (2 * e + 1) = x := ⟨_, rfl⟩
  have HV0 := Lib.hid (fun R' w' (hee : Ev R w R' w') => HVx.out R' w' hee (2 * e) (by omega))
  have HV1 := Lib.hid (fun R' w' (hee : Ev R w R' w') => HVx.out R' w' hee (2 * e + 1) (by omega))
  rw [hn0] at HV0 hnn
  rw [hn1] at HV1 hnn
  have hbn : (n0 == n1) = true := by simp [hnn]
  clear hI hS hok hn0 hn1 HVx hp hnn
  go_enter Tryz.func20, Tryz.ntmps20
  go_wp2_with fail
  refine HOf.out.mono ?_
  rintro z w2 ⟨b, a, cap, rfl, he2, hls⟩
  have HE2 := Lib.hid he2
  clear he2 hls
  go_wp2_with fail
  refine (HV0.out _ _ HE2.out).mono ?_
  rintro z w4 ⟨rfl, R4, he4⟩
  have HE4 := Lib.hid (HE2.out.trans he4)
  clear he4
  go_wp2_with fail
  refine (HV1.out _ _ HE4.out).mono ?_
  rintro z w5 ⟨rfl, R5, he5⟩
  have HE5 := Lib.hid (HE4.out.trans he5)
  clear he5
  go_wp2_with fail
  go_ret2
  exact ⟨rfl, R5, HE5.out⟩

end Go.Proofs.YtklkgicjfnbndaaGreat

namespace Go.Proofs.YtklkgicjfnbndaaGreat
set_option linter.unusedVariables false

/-- of one part, without the edge -/
def offE (s : List Nat) (e X Y : Nat) : Prop := cyc s.length (at' s) X Y ∨ ∃ z z', z < s.length - 2 ∧ z' < s.length - 2 ∧ cyc s.length (at' s) X (unL e z) ∧ cyc s.length (at' s) (unL e z') Y ∧ Con (doneL s e) z z'

theorem own_it {s u : List Nat} {e d : Nat} (h : ∀ x, x / 2 = e → at' s x = at' u x) (ho : ∀ k, itf (at' s) k d / 2 = e) : ∀ k, itf (at' u) k d = itf (at' s) k d
  | 0 => rfl
  | k + 1 => by rw [itf_succ, itf_succ, own_it h ho k, h _ (ho k)]
theorem own_all {s u : List Nat} (hs : IsPerm s) (hl : u.length = s.length) {e d : Nat} (hd : d < s.length) (h : ∀ x, x / 2 = e → at' s x = at' u x) (hz : ∀ z, cyc s.length (at' s) d z → z / 2 = e) (z : Nat) : cyc u.length (at' u) d z ↔ cyc s.length (at' s) d z := by
  have ho : ∀ k, itf (at' s) k d / 2 = e := fun k => hz _ ⟨hd, hs.pm.it hd k, k, rfl⟩
  have hk := own_it h ho
  rw [hl]
  constructor
  · rintro ⟨a, b, k, e⟩
    exact ⟨a, b, k, by rw [← hk k]; exact e⟩
  · rintro ⟨a, b, k, e⟩
    exact ⟨a, b, k, by rw [hk k]; exact e⟩

section
variable {s : List Nat} (hs : IsPerm s) (he : s.length % 2 = 0) {e : Nat} (hn : 2 * e + 2 ≤ s.length)
include hs he hn

omit he in
theorem cut_cyc {z z' : Nat} (hz : z < s.length - 2) (hz' : z' < s.length - 2) (k : cyc s.length (at' s) (unL e z) (unL e z')) : Con (doneL s e) z z' := by
  have hpd := doneL_perm hs hn
  have hc := Con.per hpd
  rw [doneL_length] at hc
  have h1 := (cyc_done hs hn hz hz').2 k
  have hpm := hpd.pm
  rw [doneL_length] at hpm
  exact hpm.cyc_sub hc (fun w hw => Con.step hpd (by rw [doneL_length]; exact hw)) h1
omit he in
theorem off_per : Per s.length (offE s e) := by
  have hq := hs.pm.per
  have hpd := doneL_perm hs hn
  have hc := Con.per hpd
  rw [doneL_length] at hc
  refine ⟨fun h => Or.inl (hq.refl h), ?_, ?_, ?_⟩
  · rintro X Y (h | ⟨z, z', a, b, c, d, f⟩)
    · exact Or.inl (hq.symm h)
    · exact Or.inr ⟨z', z, b, a, hq.symm d, hq.symm c, hc.symm f⟩
  · rintro X Y Z (h | ⟨z, z', a, b, c, d, f⟩) (k | ⟨y, y', a', b', c', d', f'⟩)
    · exact Or.inl (hq.trans h k)
    · exact Or.inr ⟨y, y', a', b', hq.trans h c', d', f'⟩
    · exact Or.inr ⟨z, z', a, b, c, hq.trans d k, f⟩
    · exact Or.inr ⟨z, y', a, b', c, d', hc.trans f (hc.trans (cut_cyc hs hn b a' (hq.trans d c')) f')⟩
  · rintro X Y (h | ⟨z, z', a, b, c, d, f⟩)
    · exact hq.dom h
    · exact hq.dom c
theorem con_off {X Y : Nat} (h : Con s X Y) : mrg (offE s e) (2 * e) (2 * e + 1) X Y := by
  have ho := off_per hs hn
  have hq := hs.pm.per
  have hpd := doneL_perm hs hn
  have hr := ho.mrg (a := 2 * e) (b := 2 * e + 1) (by omega) (by omega)
  refine Con.sub hs hr (fun x hx => Or.inl (Or.inl (hs.pm.step hx))) (fun x hx => ?_) h
  have hxm := xor_one_lt he hx
  by_cases ho' : x / 2 = e
  · have h2 : x = 2 * e ∨ x = 2 * e + 1 := by omega
    rcases h2 with rfl | rfl
    · rw [xor_even]; exact Or.inr (Or.inl ⟨ho.refl (by omega), ho.refl (by omega)⟩)
    · rw [xor_odd]; exact Or.inr (Or.inr ⟨ho.refl (by omega), ho.refl (by omega)⟩)
  · have hom : ¬ (x ^^^ 1) / 2 = e := fun k => ho' (mate_own.1 k)
    have r1 := un_nm ho'
    have r2 := un_nm hom
    have l1 := nmL_lt hn ho' hx
    have l2 := nmL_lt hn hom hxm
    have hnm : nmL e (x ^^^ 1) = nmL e x ^^^ 1 := unL_inj (e := e) (by rw [r2, unL_mate, r1])
    refine Or.inl (Or.inr ⟨nmL e x, nmL e (x ^^^ 1), l1, l2, by rw [r1]; exact hq.refl hx, by rw [r2]; exact hq.refl hxm, ?_⟩)
    rw [hnm]
    exact Con.mate hpd (by rw [doneL_length]; omega) (by rw [doneL_length]; exact l1)
theorem cut_parts_le : ((partsN (doneL s e) : Nat) : Int) + cutLone s e ≤ (partsN s : Nat) + 1 := by
  have ho := off_per hs hn
  have hq := hs.pm.per
  have hpd := doneL_perm hs hn
  have hdl := doneL_length s e
  have hr : Per (s.length - 2) (Con (doneL s e)) := by have := Con.per hpd; rwa [hdl] at this
  have hrc : Per (s.length - 2) (cyc (s.length - 2) (at' (doneL s e))) := by have := hpd.pm.per; rwa [hdl] at this
  have a := (partsL_ord hs he).cnt_eq (Nat.le_refl s.length)
  have b := (partsL_ord hpd (by rw [hdl]; omega)).cnt_eq (Nat.le_refl (doneL s e).length)
  have h1 : partsN (doneL s e) = cls (Con (doneL s e)) (fun _ => True) (s.length - 2) := by
    unfold partsN
    rw [b, hdl]
    exact tally_congr fun k _ => ⟨fun h => ⟨trivial, h⟩, fun h => h.2⟩
  have h0 : partsN s = cls (Con s) (fun _ => True) s.length := by
    unfold partsN
    rw [a]
    exact tally_congr fun k _ => ⟨fun h => ⟨trivial, h⟩, fun h => h.2⟩
  have h2 := cls_cover (P := fun y => ∃ z, cyc s.length (at' s) y z ∧ ¬ z / 2 = e) hr ho (unL e) (fun x hx => ⟨unL_lt hn hx, unL e x, hq.refl (unL_lt hn hx), unL_own⟩) (fun y hy hP => by
    obtain ⟨z, hz, hzo⟩ := hP
    exact ⟨nmL e z, nmL_lt hn hzo (hq.cod hz), Or.inl (by rw [un_nm hzo]; exact hq.symm hz)⟩) (fun x y hx hxy => by
    obtain ⟨z, hz, hzo⟩ := hx
    rcases hxy with k | ⟨u, u', k1, k2, k3, k4, k5⟩
    · exact ⟨z, hq.trans (hq.symm k) hz, hzo⟩
    · exact ⟨unL e u', hq.symm k4, unL_own⟩) (fun x y hx hy => ⟨fun h => Or.inr ⟨x, y, hx, hy, hq.refl (unL_lt hn hx), hq.refl (unL_lt hn hy), h⟩, fun h => by
    rcases h with k | ⟨u, u', k1, k2, k3, k4, k5⟩
    · exact cut_cyc hs hn hx hy k
    · exact hr.trans (cut_cyc hs hn hx k1 k3) (hr.trans k5 (cut_cyc hs hn k2 hy k4))⟩)
  have h3 : cls (offE s e) (fun _ => True) s.length ≤ cls (Con s) (fun _ => True) s.length + 1 := by
    have hm : cls (mrg (offE s e) (2 * e) (2 * e + 1)) (fun _ => True) s.length ≤ cls (Con s) (fun _ => True) s.length :=
      tally_mono fun x hx h => ⟨trivial, fun y hy hc => h.2 y hy (con_off hs he hn hc)⟩
    by_cases hab : offE s e (2 * e) (2 * e + 1)
    · have : cls (mrg (offE s e) (2 * e) (2 * e + 1)) (fun _ => True) s.length = cls (offE s e) (fun _ => True) s.length := cls_congr fun x y _ _ => ho.mrg_same hab
      omega
    · have := cls_mrg ho (P := fun _ => True) (fun _ _ _ _ => trivial) (a := 2 * e) (b := 2 * e + 1) (by omega) (by omega) hab trivial trivial
      omega
  have h4 : cls (offE s e) (fun _ => True) s.length = cls (offE s e) (fun y => ∃ z, cyc s.length (at' s) y z ∧ ¬ z / 2 = e) s.length + tally (fun x => Least (offE s e) x ∧ ¬ ∃ z, cyc s.length (at' s) x z ∧ ¬ z / 2 = e) s.length := by
    have e1 : cls (offE s e) (fun _ => True) s.length = tally (Least (offE s e)) s.length := tally_congr fun k _ => ⟨fun h => h.2, fun h => ⟨trivial, h⟩⟩
    rw [e1, tally_split _ (fun y => ∃ z, cyc s.length (at' s) y z ∧ ¬ z / 2 = e)]
    congr 1
    exact tally_congr fun k _ => And.comm
  have h5 : tally (fun x => Least (offE s e) x ∧ ¬ ∃ z, cyc s.length (at' s) x z ∧ ¬ z / 2 = e) s.length = tally (fun x => Least (cyc s.length (at' s)) x ∧ ¬ ∃ z, cyc s.length (at' s) x z ∧ ¬ z / 2 = e) s.length := by
    refine tally_congr fun x hx => ⟨fun h => ⟨fun y hy hc => h.1 y hy (Or.inl hc), h.2⟩, fun h => ⟨fun y hy hc => ?_, h.2⟩⟩
    rcases hc with k | ⟨u, u', k1, k2, k3, k4, k5⟩
    · exact h.1 y hy k
    · exact h.2 ⟨unL e u', hq.symm k4, unL_own⟩
  have g1 : (sizesL (doneL s e)).length = cls (cyc (s.length - 2) (at' (doneL s e))) (fun _ => True) (s.length - 2) := by
    rw [sizesL_tally hpd, doneL_length]
    exact tally_congr fun k _ => ⟨fun h => ⟨trivial, h⟩, fun h => h.2⟩
  have g2 := cls_cover (P := fun y => ∃ z, cyc s.length (at' s) y z ∧ ¬ z / 2 = e) hrc hq (unL e) (fun x hx => ⟨unL_lt hn hx, unL e x, hq.refl (unL_lt hn hx), unL_own⟩) (fun y hy hP => by
    obtain ⟨z, hz, hzo⟩ := hP
    have hzl := hq.cod hz
    exact ⟨nmL e z, nmL_lt hn hzo hzl, by rw [un_nm hzo]; exact hq.symm hz⟩) (fun x y hx hxy => by
    obtain ⟨z, hz, hzo⟩ := hx
    exact ⟨z, hq.trans (hq.symm hxy) hz, hzo⟩) (fun x y hx hy => cyc_done hs hn hx hy)
  have g3 : (sizesL s).length = cls (cyc s.length (at' s)) (fun y => ∃ z, cyc s.length (at' s) y z ∧ ¬ z / 2 = e) s.length + tally (fun x => Least (cyc s.length (at' s)) x ∧ ¬ ∃ z, cyc s.length (at' s) x z ∧ ¬ z / 2 = e) s.length := by
    rw [sizesL_tally hs, tally_split _ (fun y => ∃ z, cyc s.length (at' s) y z ∧ ¬ z / 2 = e)]
    congr 1
    exact tally_congr fun k _ => And.comm
  have g4 := cut_vertices hs (e := e) hn
  rw [h1, h0]
  omega
/-- cut where one face is at both sides: a face more -/
theorem cut_faces (hf : nth (namesL (phiL s)) (2 * e) = nth (namesL (phiL s)) (2 * e + 1)) : (((sizesL (phiL (doneL s e))).length : Nat) : Int) + cutLone s e = ((sizesL (phiL s)).length : Nat) + 1 := by
  have hp := phiL_perm hs he
  have hpl := phiL_length s
  have hn1 : 2 * e + 2 ≤ (phiL s).length := by rw [hpl]; exact hn
  have hu := exL_perm hp hn1
  have hul : (exL (phiL s) e).length = s.length := by rw [exL_length, hpl]
  have hn2 : 2 * e + 2 ≤ (exL (phiL s) e).length := by rw [hul]; exact hn
  have hA : 2 * e < s.length := by omega
  have hB : 2 * e + 1 < s.length := by omega
  have hdd := doneL_perm hu hn2
  have t1 : phiL (doneL s e) = doneL (exL (phiL s) e) e := by
    have h := turn_shrink hp (by rw [hpl]; exact he) hn1
    rw [phi_phi he] at h
    rw [← h]
    exact phi_phi (by rw [doneL_length, hul]; omega)
  have back : exL (exL (phiL s) e) e = phiL s := by
    refine eq_at (by rw [exL_length, exL_length]) fun j hj => ?_
    rw [exL_length, exL_length] at hj
    rw [exL_at (by rw [exL_length]; exact hj), exL_at (exI_lt hn1 hj)]
    congr 1
    unfold exI
    repeat' split
    all_goals omega
  have hcf : cyc s.length (at' (phiL s)) (2 * e) (2 * e + 1) := by
    have h := ((namesL_ord hp).rel (2 * e) (2 * e + 1) (by rw [hpl]; exact hA) (by rw [hpl]; exact hB)).1 hf
    rwa [hpl] at h
  have hnu : nth (namesL (exL (phiL s) e)) (2 * e) ≠ nth (namesL (exL (phiL s) e)) (2 * e + 1) := fun h => by
    have h1 := ((namesL_ord hu).rel (2 * e) (2 * e + 1) (by rw [hul]; exact hA) (by rw [hul]; exact hB)).1 h
    rw [hul] at h1
    have hpm := hp.pm
    rw [hpl] at hpm
    refine hpm.swp_part hA hB (by omega) hcf ?_
    have hum := hu.pm
    rw [hul] at hum
    have hpp : Per s.length (cyc s.length (swp (at' (phiL s)) (2 * e) (2 * e + 1))) := (hpm.swap hA hB (by omega)).per
    refine hum.cyc_sub hpp (fun w hw => ?_) h1
    rw [exL_swp (by rw [hpl]; exact hw)]
    exact (hpm.swap hA hB (by omega)).step hw
  have v1 := ex_vertices hu hn2 hnu
  rw [back] at v1
  have v2 := cut_vertices hu (e := e) hn2
  have hag : ∀ x, x / 2 = e → at' s x = at' (exL (phiL s) e) x := fun x hx => by
    have hxl : x < s.length := by omega
    rw [exL_at (by rw [hpl]; exact hxl), exI_own hx, phiL_at (xor_one_lt he hxl), xor_one_one]
  have hbare : ∀ d, d / 2 = e → (bareB (exL (phiL s) e) e d = bareB s e d) := fun d hd => by
    have hdl : d < s.length := by omega
    rw [Bool.eq_iff_iff, bare_iff hs hn hdl, bare_iff hu hn2 (by rw [hul]; exact hdl)]
    constructor
    · intro h z hz
      have := own_all hu (by rw [hul]) (by rw [hul]; exact hdl) (fun x hx => (hag x hx).symm) h z
      exact h z (this.1 hz)
    · intro h z hz
      have := own_all hs hul hdl hag h z
      exact h z (this.1 hz)
  have hlone : cutLone (exL (phiL s) e) e = cutLone s e := by
    unfold cutLone
    rw [hbare (2 * e) (by omega), hbare (2 * e + 1) (by omega)]
    congr 1
    by_cases hb : bareB s e (2 * e + 1) = true
    · have hz := (bare_iff hs hn hB).1 hb
      have h1 := own_all hs hul hB hag hz (2 * e)
      have r1 := (namesL_ord hs).rel (2 * e + 1) (2 * e) hB hA
      have r2 := (namesL_ord hu).rel (2 * e + 1) (2 * e) (by rw [hul]; exact hB) (by rw [hul]; exact hA)
      have : (nth (namesL (exL (phiL s) e)) (2 * e) = nth (namesL (exL (phiL s) e)) (2 * e + 1)) ↔ (nth (namesL s) (2 * e) = nth (namesL s) (2 * e + 1)) := by
        constructor
        · intro h; exact (r1.2 (h1.1 (r2.1 h.symm))).symm
        · intro h; exact (r2.2 (h1.2 (r1.1 h.symm))).symm
      simp only [this]
    · rw [Bool.not_eq_true] at hb
      rw [hb, Bool.and_false, Bool.and_false]
  rw [t1]
  rw [hlone] at v2
  omega
/-- cut, the genus isn't more -/
theorem genusL_cut : genusL (doneL s e) ≤ genusL s := by
  have hp := phiL_perm hs he
  have hpl := phiL_length s
  have hn1 : 2 * e + 2 ≤ (phiL s).length := by rw [hpl]; exact hn
  have hev1 : (phiL s).length % 2 = 0 := by rw [hpl]; exact he
  by_cases hf : nth (namesL (phiL s)) (2 * e) = nth (namesL (phiL s)) (2 * e + 1)
  · have g1 := genus_total hs he
    have g2 := genus_total (doneL_perm hs hn) (by rw [doneL_length]; omega)
    rw [doneL_length] at g2
    have v1 := cut_vertices hs (e := e) hn
    have v2 := cut_faces hs he hn hf
    have v3 := cut_parts_le hs he hn
    omega
  · have hu := exL_perm hp hn1
    have hul : (exL (phiL s) e).length = s.length := by rw [exL_length, hpl]
    have hdd := doneL_perm hu (e := e) (by rw [hul]; exact hn)
    have h1 := genusL_shrink hp hev1 hn1 hf
    rw [genusL_phi hs he] at h1
    have h2 := genusL_phi hdd (by rw [doneL_length, hul]; omega)
    have h := turn_shrink hp hev1 hn1
    rw [phi_phi he] at h
    rw [h] at h2
    omega
end
end Go.Proofs.YtklkgicjfnbndaaGreat
