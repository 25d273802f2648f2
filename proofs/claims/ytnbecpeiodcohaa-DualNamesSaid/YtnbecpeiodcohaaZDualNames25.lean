/- Names of edges, and flips, as names of darts; named back. Conditions: none. perm.One. Conditions: not below nought, not too great. dual.Relabel. Conditions: the map and the names are registered. perm.Perm's Inverse. Conditions: the permutation is registered. -/
import Derived.Test.YtnbecpeiodcohaaZDualNames23
import Derived.Test.YtnbecpeiodcohaaZDualNames22
namespace Go.Proofs.Ytnbecpeiodcohaa
set_option linter.unusedVariables false

/-- a dart's name, by its edge's and whether it is flipped -/
def lblN (M : List Nat) (fb : Nat → Bool) (d : Nat) : Nat := if fb (d / 2) = true then (2 * at' M (d / 2) + d % 2) ^^^ 1 else 2 * at' M (d / 2) + d % 2
def lblL (M : List Nat) (fb : Nat → Bool) (i : Nat) : List Nat := (List.range (2 * i)).map (lblN M fb)
theorem lblL_length (M : List Nat) (fb : Nat → Bool) (i : Nat) : (lblL M fb i).length = 2 * i := by simp [lblL]
theorem lblL_at {M : List Nat} {fb : Nat → Bool} {i d : Nat} (h : d < 2 * i) : at' (lblL M fb i) d = lblN M fb d := by simp [lblL, at', h]
theorem lblL_succ (M : List Nat) (fb : Nat → Bool) (i : Nat) : lblL M fb (i + 1) = lblL M fb i ++ [lblN M fb (2 * i), lblN M fb (2 * i + 1)] := by
  unfold lblL
  rw [show 2 * (i + 1) = 2 * i + 1 + 1 by omega, List.range_succ, List.range_succ]
  simp
theorem lblN_even (M : List Nat) (fb : Nat → Bool) (i : Nat) : lblN M fb (2 * i) = (if fb i = true then 2 * at' M i + 1 else 2 * at' M i) ∧ lblN M fb (2 * i + 1) = (if fb i = true then 2 * at' M i else 2 * at' M i + 1) := by
  unfold lblN
  rw [show 2 * i / 2 = i by omega, show (2 * i + 1) / 2 = i by omega, show 2 * i % 2 = 0 by omega, show (2 * i + 1) % 2 = 1 by omega]
  cases fb i with
  | true => simp only [if_true, xor_one]; constructor <;> split <;> omega
  | false => simp
theorem lblN_div (M : List Nat) (fb : Nat → Bool) (d : Nat) : lblN M fb d / 2 = at' M (d / 2) := by
  unfold lblN
  split
  · rw [xor_one_div]; omega
  · omega
section
variable {M : List Nat} (hM : IsPerm M) (fb : Nat → Bool)
include hM
theorem lbl_perm : IsPerm (lblL M fb M.length) := by
  refine IsPerm.of_inj (fun i hi => ?_) (fun i j hi hj h => ?_)
  · rw [lblL_length] at hi ⊢
    rw [lblL_at hi]
    have h1 := lblN_div M fb i
    have h2 := hM.lt (i := i / 2) (by omega)
    omega
  · rw [lblL_length] at hi hj
    rw [lblL_at hi, lblL_at hj] at h
    have h1 := lblN_div M fb i
    have h2 := lblN_div M fb j
    have h3 := hM.inj (i := i / 2) (j := j / 2) (by omega) (by omega) (by rw [← h1, ← h2, h])
    unfold lblN at h
    rw [h3] at h
    split at h
    · have := congrArg (· ^^^ 1) h
      simp only [xor_one_one] at this
      omega
    · omega
theorem lbl_mates : Mates (lblL M fb M.length) := by
  have _h := hM
  intro d hd
  rw [lblL_length] at hd
  have hx := xor_one_lt (n := 2 * M.length) (by omega) hd
  rw [lblL_at hx, lblL_at hd]
  unfold lblN
  rw [xor_one_div]
  have h2 : (d ^^^ 1) % 2 = 1 - d % 2 := by rw [xor_one]; split <;> omega
  rw [h2]
  split
  · rw [xor_one_one, xor_one]; split <;> omega
  · rw [xor_one]; split <;> omega
end
/-- the first and the third change places -/
def sw02 (L : List Nat) : List Nat := (L.set 0 (at' L 2)).set 2 (at' L 0)
theorem sw02_length (L : List Nat) : (sw02 L).length = L.length := by simp [sw02]
theorem sw02_at {L : List Nat} {i : Nat} (hi : i < L.length) : at' (sw02 L) i = at' L (if i = 2 then 0 else if i = 0 then 2 else i) := by
  unfold sw02 at'
  simp only [List.getD_eq_getElem?_getD, List.getElem?_set, List.length_set]
  by_cases h1 : i = 2
  · subst h1; simp [hi]
  · rw [if_neg (fun h => h1 h.symm), if_neg h1]
    by_cases h2 : i = 0
    · subst h2; simp [hi]
    · rw [if_neg (fun h => h2 h.symm), if_neg h2]
theorem sw02_perm {L : List Nat} (hL : IsPerm L) (h2 : 2 < L.length) : IsPerm (sw02 L) := by
  refine IsPerm.of_inj (fun i hi => ?_) (fun i j hi hj h => ?_)
  · rw [sw02_length] at hi ⊢
    rw [sw02_at hi]
    exact hL.lt (by repeat' split
                    all_goals omega)
  · rw [sw02_length] at hi hj
    rw [sw02_at hi, sw02_at hj] at h
    have := hL.inj (by repeat' split
                       all_goals omega) (by repeat' split
                                            all_goals omega) h
    repeat' split at this
    all_goals omega
theorem sw02_not {L : List Nat} (hL : IsPerm L) (hm : Mates L) (h2 : 2 < L.length) : ¬ Mates (sw02 L) := fun h => by
  have h0 := h 0 (by rw [sw02_length]; omega)
  rw [show 0 ^^^ 1 = 1 from rfl, sw02_at (by omega), sw02_at (by omega)] at h0
  simp at h0
  have h1 := hm 0 (by omega)
  rw [show 0 ^^^ 1 = 1 from rfl] at h1
  rw [h1] at h0
  have := congrArg (· ^^^ 1) h0
  simp only [xor_one_one] at this
  have := hL.inj (i := 0) (j := 2) (by omega) h2 this
  omega

section
variable {s t : List Nat} (hs : IsPerm s) (ht : IsPerm t) (hl : t.length = s.length)
include ht
theorem inv_mates (he : t.length % 2 = 0) (hm : Mates t) : Mates (invL t) := by
  intro d hd
  rw [invL_length] at hd
  have h1 := at_invL ht (y := d) hd
  have h2 := at_invL ht (y := d ^^^ 1) (xor_one_lt he hd)
  refine ht.inj h2.2 (xor_one_lt he h1.2) ?_
  rw [h2.1, hm _ h1.2, h1.1]
include hs hl
theorem rel_back : relL (relL s t) (invL t) = s := by
  refine eq_at (by rw [relL_length, relL_length]) fun j hj => ?_
  rw [relL_length, relL_length] at hj
  have hjt : j < t.length := by rw [hl]; exact hj
  rw [relL_at (by rw [relL_length]; exact hj), inv_inv ht, relL_to ht hl hj, invL_at ht (by rw [hl]; exact hs.lt hj)]
theorem root_back {r : Int} (hr : r = -1 ∨ (0 ≤ r ∧ r < s.length)) : atI (invL t) (atI t r) = r := by
  have _h := hs
  rcases hr with rfl | ⟨h1, h2⟩
  · rw [atI_out (s := t) (Or.inl (by omega)), atI_out (Or.inl (by omega))]
  · obtain ⟨k, rfl⟩ := Int.eq_ofNat_of_zero_le h1
    have hk : k < t.length := by omega
    rw [atI_in hk, atI_in (by rw [invL_length]; exact ht.lt hk), invL_at ht hk]
end
end Go.Proofs.Ytnbecpeiodcohaa

namespace Go.Proofs.Ytnbecpeiodcohaa
open Go.RowKit
set_option linter.unusedVariables false


theorem Ev.regPerm {R R1 : Reg} {w w1 : World} {B b : Nat} {E T : TypeId} {v : Value} {S : List Nat} (he : Ev R w R1 w1) (hB : w.heap.size ≤ B) (ho : OwnI R1 B E w1 v (toI S)) (hS : IsPerm S) (hn : S.length ≤ 4194304)
    (hb : w1.heap[b]? = some (.cells #[v, .int .u32 0, .int .i32 0, .int .u32 0, .slice none 0 0] T (0, 0))) (hbw : w.heap.size ≤ b) (hbn : R1 b = none) (hd : v.ownBlock ≠ some b) :
    ∃ R2, Ev R w R2 w1 ∧ PermAt R2 (.pointer (some ⟨b, 0, none⟩)) S := by
  obtain ⟨R2, he2, hf, hk, hn2⟩ := ho.fix he hB
  exact ⟨R2.put b (.inr (.inl S)), he2.put _ hbw (hn2 b hbn hd) ⟨hS, hn, v, T, 0, nilS, hb, hf, Or.inl ⟨rfl, rfl⟩⟩, b, rfl, Reg.put_same _ _ _⟩

def RetPm (R : Reg) (w : World) (S : List Nat) (e : Ending) (w' : World) : Prop :=
  ∃ p R', e = .returned p ∧ Ev R w R' w' ∧ PermAt R' p S

set_option maxRecDepth 100000 in
set_option maxHeartbeats 2000000 in
theorem one_any (R : Reg) (w : World) (hI : Inv R w) (n : Nat) (hn : n ≤ 1000000) : Calls Try.prog 55 #[.int .i64 (n : Int)] w (RetPm R w (List.range n)) := by
  have HI := Lib.hid hI
  clear hI
  have hmx : max (n : Int) 0 = (n : Int) := by omega
  obtain ⟨T, hT⟩ : ∃ T : TypeId, T = 141 := ⟨_, rfl⟩
  go_enter Try.func55, Try.ntmps55
  go_wp2_with fail
  obtain ⟨b, hb⟩ : ∃ b, w.heap.size = b := ⟨_, rfl⟩
  have hE0 : Ev R w R (w.alloc (.cells #[.slice none 0 0, .int .u32 0, .int .i32 0, .int .u32 0, .slice none 0 0] T)) := (Ev.refl HI.out).alloc _
  have hB0 : (w.alloc (.cells #[.slice none 0 0, .int .u32 0, .int .i32 0, .int .u32 0, .slice none 0 0] T)).heap[b]? = some (.cells #[.slice none 0 0, .int .u32 0, .int .i32 0, .int .u32 0, .slice none 0 0] T (0, 0)) := by rw [← hb]; exact heap_alloc_new w _
  have hbn : R b = none := HI.out.none_of_ge (by omega)
  have HE0 := Lib.hid hE0
  have HB0 := Lib.hid hB0
  have HBn := Lib.hid hbn
  have HBb := Lib.hid hb
  rw [← hT, hb]
  clear hE0 hB0 hbn hb
  go_loopg [9] n (fun g v9 wr => ∃ (i : Nat) (a : Option Addr) (l c : Nat), i ≤ n ∧ n - i ≤ g ∧ v9 = .int .i64 (i : Int) ∧ Ev R w R wr ∧ wr.heap[b]? = some (.cells #[.slice a l c, .int .u32 0, .int .i32 0, .int .u32 0, .slice none 0 0] T (0, 0)) ∧ OwnI R w.heap.size 3 wr (.slice a l c) (toI (List.range i)) ∧ (Value.slice a l c).ownBlock ≠ some b)
  case atStart => exact ⟨0, none, 0, 0, Nat.zero_le _, by omega, rfl, HE0.out, HB0.out, OwnI.nil _ _ _ _, by simp [Value.ownBlock]⟩
  case round =>
    obtain ⟨i, a, l, c, hin, hg, rfl, he, hbl, ho, hds⟩ := hrel
    have HE := Lib.hid he
    have HO := Lib.hid ho
    have HD := Lib.hid hds
    have HBl := Lib.hid hbl
    have hbz := lt_of_block hbl
    clear he ho hds
    by_cases hil : i < n
    · have c0 : wr.cell? ⟨b, 0, none⟩ = some (.slice a l c) := cells_at hbl 0
      have HEa := Lib.hid (HE.out.alloc (.cells #[.int .i64 (i : Int)] 3))
      have HOa := Lib.hid (HO.out.alloc (.cells #[.int .i64 (i : Int)] 3))
      have HBa : Hid ((wr.alloc (.cells #[.int .i64 (i : Int)] 3)).heap[b]? = _) := Lib.hid ((Below.heap_alloc _ _ _ hbz).trans HBl.out)
      clear hbl
      go_wp2_with (at_builtin; refine wpList_app_int (R := R) (B := w.heap.size) rfl _ _ rfl HOa.out rfl ⟨wr.heap.size, 0, none⟩ 1 (i : Int) ?a0 ?a1 ?a2 ?a3 ?a4 ?_)
      case a0 => first | rfl | simp
      case a1 => first | rfl | simp
      case a2 => rw [toI_length, List.length_range]; omega
      case a3 => have := HE.out.size; simp; omega
      case a4 => exact fun q hq => HEa.out.inv.none_of_ge (by simp at hq ⊢; omega)
      intro v8 w6 ho8 hg6 hs6
      obtain ⟨a8, c8, rfl, _⟩ := ho8.ints.open
      rw [← toI_range_succ] at ho8 hs6 ⊢
      obtain ⟨l8, hl8⟩ : ∃ l, (toI (List.range (i + 1))).length = l := ⟨_, rfl⟩
      rw [hl8] at ho8 hs6 ⊢
      have hb6 := (hg6.block b (lt_of_block HBa.out) (fun e => HD.out e.symm)).trans HBa.out
      have hd6 : (Value.slice a8 l8 c8).ownBlock ≠ some b := fun h => by
        rcases hs6 b h with e | e
        · exact HD.out e
        · first | omega | (simp at e; omega)
      have hn6 : w6.cell? ⟨b, 0, none⟩ = some (.slice a l c) := cells_at hb6 0
      have hz6 : w6.frozen? ⟨b, 0, none⟩ = false := by simp [World.frozen?, hb6]
      have hb7 := heap_setCell_same w6 b 0 _ T (.slice a8 l8 c8) hb6
      have he7 := (HEa.out.app HOa.out (Nat.le_refl _) hg6).setCell (p := ⟨b, 0, none⟩) (by show w.heap.size ≤ b; rw [HBb.out]; exact Nat.le_refl _) HBn.out (.slice a8 l8 c8)
      have ho7 := ho8.setCell (a := ⟨b, 0, none⟩) hd6 (.slice a8 l8 c8)
      have HB7 := Lib.hid hb7
      have HE7 := Lib.hid he7
      have HO7 := Lib.hid ho7
      have HD7 := Lib.hid hd6
      clear hl8 ho8 hg6 hs6 hb6 hb7 he7 ho7 hd6
      go_wp2_with fail
      go_roundg (n - (i + 1))
      case measure => omega
      case rel => exact ⟨i + 1, a8, l8, c8, by omega, by omega, by go_num, HE7.out, HB7.out, HO7.out, HD7.out⟩
    · obtain rfl : i = n := by omega
      obtain ⟨R2, he2, hp2⟩ := HE.out.regPerm (Nat.le_refl _) HO.out (range_perm i) (by rw [List.length_range]; omega) hbl (by rw [HBb.out]; exact Nat.le_refl _) HBn.out HD.out
      have HE2 := Lib.hid he2
      have HP2 := Lib.hid hp2
      clear hbl he2 hp2
      go_wp2_with fail
      go_ret
      exact ⟨_, R2, rfl, HE2.out, HP2.out⟩

end Go.Proofs.Ytnbecpeiodcohaa

namespace Go.Proofs.Ytnbecpeiodcohaa
open Go.RowKit
set_option linter.unusedVariables false

set_option maxRecDepth 100000 in
theorem relabel_len (R : Reg) (w : World) (hI : Inv R w) (p q : Value) (s t : List Nat) (root lone : Int) (hp : MapAt R p s root lone) (hq : PermAt R q t) (hl : t.length ≠ s.length) :
    Calls Try.prog 54 #[p, q] w fun e w' => e = .returned (.tuple #[.pointer none, .int .i64 1]) ∧ w = w' := by
  have HD := Lib.hid (darts_any R w hI p s root lone hp)
  have HL := Lib.hid (len_any R w hI q t hq)
  obtain ⟨b, rfl, _⟩ := hp
  obtain ⟨c, rfl, _⟩ := hq
  have hb : ((t.length : Int) != (s.length : Int)) = true := by simp; omega
  clear hI
  go_enter Try.func54, Try.ntmps54
  go_wp2_with fail
  refine HL.out.mono ?_
  rintro e w' ⟨rfl, rfl⟩
  go_wp2_with fail
  refine HD.out.mono ?_
  rintro e w' ⟨rfl, rfl⟩
  go_wp2_with fail
  go_ret2
  exact ⟨rfl, rfl⟩

set_option maxRecDepth 100000 in
set_option maxHeartbeats 4000000 in
theorem relabel_yes (R : Reg) (w : World) (hI : Inv R w) (p q : Value) (s t : List Nat) (root lone : Int) (hp : MapAt R p s root lone) (hq : PermAt R q t) (ht : IsPerm t) (hl : t.length = s.length) (hm : Mates t) :
    Calls Try.prog 54 #[p, q] w (NewYes R w (relL s t) (atI t root) lone) := by
  obtain ⟨hS, hok⟩ := hp.ok hI
  have hn0 := hok.2.1
  have hev := hok.1
  have HDt := Lib.hid (fun R' w' (he : Ev R w R' w') => darts_any R' w' he.inv p s root lone (he.map hp))
  have HRt := Lib.hid (fun R' w' (he : Ev R w R' w') => root_any R' w' he.inv p s root lone (he.map hp))
  have HLn := Lib.hid (fun R' w' (he : Ev R w R' w') => lone_any R' w' he.inv p s root lone (he.map hp))
  have HSg := Lib.hid (fun R' w' (he : Ev R w R' w') (d : Nat) (hd : d < s.length) => (by
    have := sigma_any R' w' he.inv p s root lone (he.map hp) (d : Int)
    rw [atI_in hd] at this
    exact this : Calls Try.prog 72 #[p, .int .i64 (d : Int)] w' _))
  have HQl := Lib.hid (fun R' w' (he : Ev R w R' w') => len_any R' w' he.inv q t (he.perm hq))
  have HQr := Lib.hid (fun R' w' (he : Ev R w R' w') => at_any R' w' he.inv q t (he.perm hq) root)
  have HQa := Lib.hid (fun R' w' (he : Ev R w R' w') (d : Nat) (hd : d < s.length) => (by
    have := at_any R' w' he.inv q t (he.perm hq) (d : Int)
    rw [atI_in (by rw [hl]; exact hd)] at this
    exact this : Calls Try.prog 71 #[q, .int .i64 (d : Int)] w' _))
  have HMt := Lib.hid hm
  have HAl := Lib.hid (relGo_all ht hl)
  have HSt := Lib.hid (fun i (hi : i < s.length) => relGo_set ht hl hi)
  have HSl := Lib.hid (fun i (hi : i < s.length) => hS.lt hi)
  have HTl := Lib.hid (fun i (hi : i < s.length) => (by have := ht.lt (i := i) (by rw [hl]; exact hi); omega : at' t i < s.length))
  have HNy := Lib.hid (fun R' w' (hI' : Inv R' w') v (hv : FreeI R' w' v (toI (relL s t))) => new_yes R' w' hI' v (relL s t) hv (atI t root) lone (relL_perm hS ht hl) (relRoot hok ht hl))
  have HRl := Lib.hid (fun i => relGo_length s t i)
  have HRz := Lib.hid (relGo_zero s t)
  have HI := Lib.hid hI
  obtain ⟨b, rfl, _⟩ := hp
  obtain ⟨c, rfl, _⟩ := hq
  obtain ⟨n, hln⟩ : ∃ n, s.length = n := ⟨_, rfl⟩
  have HTn := Lib.hid (hl.trans hln)
  rw [hl] at HQl
  rw [hln] at HDt HSg HQl HQa HAl HSt HSl HTl HRl HRz hn0 hev
  obtain ⟨i0, hi, hz0, hz1, hz2⟩ := info_parts int_info
  have hbn : ((n : Int) != (n : Int)) = false := by simp
  clear hI hS hok ht hl hm hln
  go_enter Try.func54, Try.ntmps54
  go_wp2_with fail
  refine (HQl.out _ _ (Ev.refl HI.out)).mono ?_
  rintro e w' ⟨rfl, rfl⟩
  go_wp2_with fail
  refine (HDt.out _ _ (Ev.refl HI.out)).mono ?_
  rintro e w' ⟨rfl, rfl⟩
  go_wp2_with (first | (go_at_call 17; refine (HDt.out _ _ (Ev.refl HI.out)).mono ?_; rintro e w' ⟨rfl, rfl⟩) | (refine wpList_make_full _ rfl _ _ 25 rfl w.heap.size 3 i0 (.int .i64 0) 1 Try.underlying25 hi hz0 hz1 .i64 .i64 (n : Int) (n : Int) n rfl rfl rfl rfl ?q1 ?q2 (Nat.le_refl _) ?_))
  case q1 => rw [hz2]; omega
  case q2 => unfold maxLen; omega
  intro w1 ho1 hg1
  have hown : OwnI R w.heap.size 3 w1 (.slice (some ⟨w.heap.size, 0, none⟩) n n) (relGo s t 0) := by rw [HRz.out]; exact OwnI.made HI.out ho1
  have he1 : Ev R w R w1 := (Ev.refl HI.out).grown hg1 (by simp)
  have HO1 := Lib.hid hown
  have HE1 := Lib.hid he1
  clear ho1 hg1 hown he1
  go_wp2_with fail
  obtain ⟨g6, hg6⟩ : ∃ g, w.heap.size = g := ⟨_, rfl⟩
  rw [hg6] at HO1 ⊢
  have HG6 := Lib.hid hg6
  go_loopg [26] n (fun g v26 wr => ∃ (i : Nat), i ≤ n ∧ n - i ≤ g ∧ v26 = .int .i64 (i : Int) ∧ Ev R w R wr ∧ OwnI R g6 3 wr (.slice (some ⟨g6, 0, none⟩) n n) (relGo s t i) ∧ ∀ d, d < i → at' t (d ^^^ 1) = at' t d ^^^ 1)
  case atStart => exact ⟨0, Nat.zero_le _, by omega, rfl, HE1.out, HO1.out, fun d hd => by omega⟩
  case round =>
    obtain ⟨i, hin, hg, rfl, he, ho, hall⟩ := hrel
    have HE := Lib.hid he
    have HO := Lib.hid ho
    have HAa := Lib.hid hall
    clear he ho hall
    by_cases hil : i < n
    · have hx1 := xor_one_lt hev hil
      have hxor : bits .xor .i64 (i : Int) 1 = ((i ^^^ 1 : Nat) : Int) := xor_one_i64 (by omega)
      have h1 := HTl.out i hil
      have h2 := HTl.out (i ^^^ 1) hx1
      have HA1 := Lib.hid (HQa.out R wr HE.out i hil)
      have HA2 := Lib.hid (HQa.out R wr HE.out (i ^^^ 1) hx1)
      obtain ⟨j, hj⟩ : ∃ j, i ^^^ 1 = j := ⟨_, rfl⟩
      have HJ := Lib.hid hj
      rw [hj] at hxor HA2 h2 hx1
      obtain ⟨ti, hti⟩ : ∃ k, at' t i = k := ⟨_, rfl⟩
      obtain ⟨tj, htj⟩ : ∃ k, at' t j = k := ⟨_, rfl⟩
      have HTi := Lib.hid hti
      have HTj := Lib.hid htj
      rw [hti] at HA1 h1
      rw [htj] at HA2 h2
      have hxor2 : bits .xor .i64 (ti : Int) 1 = ((ti ^^^ 1 : Nat) : Int) := xor_one_i64 (by omega)
      obtain ⟨tm, htm⟩ : ∃ j, ti ^^^ 1 = j := ⟨_, rfl⟩
      have HTm := Lib.hid htm
      rw [htm] at hxor2
      clear hj hti htj htm
      by_cases hmm : tj = tm
      · have hbm : ((tj : Int) != (tm : Int)) = false := by rw [hmm]; simp
        have hsl := HSl.out i hil
        have HSg1 := Lib.hid (HSg.out R wr HE.out i hil)
        have HA3 := Lib.hid (HQa.out R wr HE.out (at' s i) hsl)
        have hst := HSt.out i hil
        rw [HTi.out] at hst
        obtain ⟨si, hsi⟩ : ∃ k, at' s i = k := ⟨_, rfl⟩
        rw [hsi] at HSg1 HA3 hst
        obtain ⟨y, hy⟩ : ∃ k, at' t si = k := ⟨_, rfl⟩
        rw [hy] at HA3 hst
        have HSt2 := Lib.hid hst
        obtain ⟨_, e6, hB6, hR6, hc6, hz6⟩ := HO.out.headAt (HRl.out i) h1
        cases e6
        have hput := HO.out.put (HRl.out i) ti h1 ((y : Nat) : Int)
        rw [HSt2.out] at hput
        have HPut := Lib.hid hput
        clear hst hsi hy hput hmm
        go_wp2_with fail
        refine HA2.out.mono ?_
        rintro e w' ⟨rfl, rfl⟩
        go_wp2_with fail
        refine HA1.out.mono ?_
        rintro e w' ⟨rfl, rfl⟩
        go_wp2_with fail
        refine HA1.out.mono ?_
        rintro e w' ⟨rfl, rfl⟩
        go_wp2_with fail
        refine HSg1.out.mono ?_
        rintro e w' ⟨rfl, rfl⟩
        go_wp2_with fail
        refine HA3.out.mono ?_
        rintro e w' ⟨rfl, rfl⟩
        go_wp2_with fail
        go_roundg (n - (i + 1))
        case measure => omega
        case rel => exact ⟨i + 1, by omega, by omega, by go_num, HE.out.setCell (by show w.heap.size ≤ g6; rw [HG6.out]; exact Nat.le_refl _) hR6 _, HPut.out, fun d hd => by
          by_cases e : d = i
          · subst e
            rw [HJ.out, HTj.out, HTi.out, HTm.out]
            have h9 := hbm
            simp at h9
            omega
          · exact HAa.out d (by omega)⟩
      · exfalso
        have := HMt.out i (by rw [HTn.out]; exact hil)
        rw [HJ.out, HTj.out, HTi.out, HTm.out] at this
        exact hmm this
    · obtain rfl : i = n := by omega
      have ho := HO.out
      rw [HAl.out] at ho
      have HOf := Lib.hid ho.free
      have HNw := Lib.hid (HNy.out R wr HE.out.inv _ HOf.out)
      clear ho
      go_wp2_with fail
      refine (HRt.out _ _ HE.out).mono ?_
      rintro e w' ⟨rfl, rfl⟩
      go_wp2_with fail
      refine (HQr.out _ _ HE.out).mono ?_
      rintro e w' ⟨rfl, rfl⟩
      go_wp2_with fail
      refine (HLn.out _ _ HE.out).mono ?_
      rintro e w' ⟨rfl, rfl⟩
      go_wp2_with fail
      refine HNw.out.mono ?_
      rintro e w5 ⟨q, R5, rfl, he5, hq5⟩
      have HE5 := Lib.hid (HE.out.trans he5)
      have HQ5 := Lib.hid hq5
      clear he5 hq5
      go_wp2_with fail
      go_ret2
      exact ⟨_, R5, rfl, HE5.out, HQ5.out⟩

set_option maxRecDepth 100000 in
set_option maxHeartbeats 4000000 in
theorem relabel_no (R : Reg) (w : World) (hI : Inv R w) (p q : Value) (s t : List Nat) (root lone : Int) (hp : MapAt R p s root lone) (hq : PermAt R q t) (ht : IsPerm t) (hl : t.length = s.length) (hm : ¬ Mates t) :
    Calls Try.prog 54 #[p, q] w (fun e w' => e = .returned (.tuple #[.pointer none, .int .i64 4]) ∧ Ev R w R w') := by
  obtain ⟨hS, hok⟩ := hp.ok hI
  have hn0 := hok.2.1
  have hev := hok.1
  have HDt := Lib.hid (fun R' w' (he : Ev R w R' w') => darts_any R' w' he.inv p s root lone (he.map hp))
  have HRt := Lib.hid (fun R' w' (he : Ev R w R' w') => root_any R' w' he.inv p s root lone (he.map hp))
  have HLn := Lib.hid (fun R' w' (he : Ev R w R' w') => lone_any R' w' he.inv p s root lone (he.map hp))
  have HSg := Lib.hid (fun R' w' (he : Ev R w R' w') (d : Nat) (hd : d < s.length) => (by
    have := sigma_any R' w' he.inv p s root lone (he.map hp) (d : Int)
    rw [atI_in hd] at this
    exact this : Calls Try.prog 72 #[p, .int .i64 (d : Int)] w' _))
  have HQl := Lib.hid (fun R' w' (he : Ev R w R' w') => len_any R' w' he.inv q t (he.perm hq))
  have HQr := Lib.hid (fun R' w' (he : Ev R w R' w') => at_any R' w' he.inv q t (he.perm hq) root)
  have HQa := Lib.hid (fun R' w' (he : Ev R w R' w') (d : Nat) (hd : d < s.length) => (by
    have := at_any R' w' he.inv q t (he.perm hq) (d : Int)
    rw [atI_in (by rw [hl]; exact hd)] at this
    exact this : Calls Try.prog 71 #[q, .int .i64 (d : Int)] w' _))
  have HMt := Lib.hid hm
  have HAl := Lib.hid (relGo_all ht hl)
  have HSt := Lib.hid (fun i (hi : i < s.length) => relGo_set ht hl hi)
  have HSl := Lib.hid (fun i (hi : i < s.length) => hS.lt hi)
  have HTl := Lib.hid (fun i (hi : i < s.length) => (by have := ht.lt (i := i) (by rw [hl]; exact hi); omega : at' t i < s.length))
  have HNy := Lib.hid (fun R' w' (hI' : Inv R' w') v (hv : FreeI R' w' v (toI (relL s t))) => new_yes R' w' hI' v (relL s t) hv (atI t root) lone (relL_perm hS ht hl) (relRoot hok ht hl))
  have HRl := Lib.hid (fun i => relGo_length s t i)
  have HRz := Lib.hid (relGo_zero s t)
  have HI := Lib.hid hI
  obtain ⟨b, rfl, _⟩ := hp
  obtain ⟨c, rfl, _⟩ := hq
  obtain ⟨n, hln⟩ : ∃ n, s.length = n := ⟨_, rfl⟩
  have HTn := Lib.hid (hl.trans hln)
  rw [hl] at HQl
  rw [hln] at HDt HSg HQl HQa HAl HSt HSl HTl HRl HRz hn0 hev
  obtain ⟨i0, hi, hz0, hz1, hz2⟩ := info_parts int_info
  have hbn : ((n : Int) != (n : Int)) = false := by simp
  clear hI hS hok ht hl hm hln
  go_enter Try.func54, Try.ntmps54
  go_wp2_with fail
  refine (HQl.out _ _ (Ev.refl HI.out)).mono ?_
  rintro e w' ⟨rfl, rfl⟩
  go_wp2_with fail
  refine (HDt.out _ _ (Ev.refl HI.out)).mono ?_
  rintro e w' ⟨rfl, rfl⟩
  go_wp2_with (first | (go_at_call 17; refine (HDt.out _ _ (Ev.refl HI.out)).mono ?_; rintro e w' ⟨rfl, rfl⟩) | (refine wpList_make_full _ rfl _ _ 25 rfl w.heap.size 3 i0 (.int .i64 0) 1 Try.underlying25 hi hz0 hz1 .i64 .i64 (n : Int) (n : Int) n rfl rfl rfl rfl ?q1 ?q2 (Nat.le_refl _) ?_))
  case q1 => rw [hz2]; omega
  case q2 => unfold maxLen; omega
  intro w1 ho1 hg1
  have hown : OwnI R w.heap.size 3 w1 (.slice (some ⟨w.heap.size, 0, none⟩) n n) (relGo s t 0) := by rw [HRz.out]; exact OwnI.made HI.out ho1
  have he1 : Ev R w R w1 := (Ev.refl HI.out).grown hg1 (by simp)
  have HO1 := Lib.hid hown
  have HE1 := Lib.hid he1
  clear ho1 hg1 hown he1
  go_wp2_with fail
  obtain ⟨g6, hg6⟩ : ∃ g, w.heap.size = g := ⟨_, rfl⟩
  rw [hg6] at HO1 ⊢
  have HG6 := Lib.hid hg6
  go_loopg [26] n (fun g v26 wr => ∃ (i : Nat), i ≤ n ∧ n - i ≤ g ∧ v26 = .int .i64 (i : Int) ∧ Ev R w R wr ∧ OwnI R g6 3 wr (.slice (some ⟨g6, 0, none⟩) n n) (relGo s t i) ∧ ∀ d, d < i → at' t (d ^^^ 1) = at' t d ^^^ 1)
  case atStart => exact ⟨0, Nat.zero_le _, by omega, rfl, HE1.out, HO1.out, fun d hd => by omega⟩
  case round =>
    obtain ⟨i, hin, hg, rfl, he, ho, hall⟩ := hrel
    have HE := Lib.hid he
    have HO := Lib.hid ho
    have HAa := Lib.hid hall
    clear he ho hall
    by_cases hil : i < n
    · have hx1 := xor_one_lt hev hil
      have hxor : bits .xor .i64 (i : Int) 1 = ((i ^^^ 1 : Nat) : Int) := xor_one_i64 (by omega)
      have h1 := HTl.out i hil
      have h2 := HTl.out (i ^^^ 1) hx1
      have HA1 := Lib.hid (HQa.out R wr HE.out i hil)
      have HA2 := Lib.hid (HQa.out R wr HE.out (i ^^^ 1) hx1)
      obtain ⟨j, hj⟩ : ∃ j, i ^^^ 1 = j := ⟨_, rfl⟩
      have HJ := Lib.hid hj
      rw [hj] at hxor HA2 h2 hx1
      obtain ⟨ti, hti⟩ : ∃ k, at' t i = k := ⟨_, rfl⟩
      obtain ⟨tj, htj⟩ : ∃ k, at' t j = k := ⟨_, rfl⟩
      have HTi := Lib.hid hti
      have HTj := Lib.hid htj
      rw [hti] at HA1 h1
      rw [htj] at HA2 h2
      have hxor2 : bits .xor .i64 (ti : Int) 1 = ((ti ^^^ 1 : Nat) : Int) := xor_one_i64 (by omega)
      obtain ⟨tm, htm⟩ : ∃ j, ti ^^^ 1 = j := ⟨_, rfl⟩
      have HTm := Lib.hid htm
      rw [htm] at hxor2
      clear hj hti htj htm
      by_cases hmm : tj = tm
      · have hbm : ((tj : Int) != (tm : Int)) = false := by rw [hmm]; simp
        have hsl := HSl.out i hil
        have HSg1 := Lib.hid (HSg.out R wr HE.out i hil)
        have HA3 := Lib.hid (HQa.out R wr HE.out (at' s i) hsl)
        have hst := HSt.out i hil
        rw [HTi.out] at hst
        obtain ⟨si, hsi⟩ : ∃ k, at' s i = k := ⟨_, rfl⟩
        rw [hsi] at HSg1 HA3 hst
        obtain ⟨y, hy⟩ : ∃ k, at' t si = k := ⟨_, rfl⟩
        rw [hy] at HA3 hst
        have HSt2 := Lib.hid hst
        obtain ⟨_, e6, hB6, hR6, hc6, hz6⟩ := HO.out.headAt (HRl.out i) h1
        cases e6
        have hput := HO.out.put (HRl.out i) ti h1 ((y : Nat) : Int)
        rw [HSt2.out] at hput
        have HPut := Lib.hid hput
        clear hst hsi hy hput hmm
        go_wp2_with fail
        refine HA2.out.mono ?_
        rintro e w' ⟨rfl, rfl⟩
        go_wp2_with fail
        refine HA1.out.mono ?_
        rintro e w' ⟨rfl, rfl⟩
        go_wp2_with fail
        refine HA1.out.mono ?_
        rintro e w' ⟨rfl, rfl⟩
        go_wp2_with fail
        refine HSg1.out.mono ?_
        rintro e w' ⟨rfl, rfl⟩
        go_wp2_with fail
        refine HA3.out.mono ?_
        rintro e w' ⟨rfl, rfl⟩
        go_wp2_with fail
        go_roundg (n - (i + 1))
        case measure => omega
        case rel => exact ⟨i + 1, by omega, by omega, by go_num, HE.out.setCell (by show w.heap.size ≤ g6; rw [HG6.out]; exact Nat.le_refl _) hR6 _, HPut.out, fun d hd => by
          by_cases e : d = i
          · subst e
            rw [HJ.out, HTj.out, HTi.out, HTm.out]
            have h9 := hbm
            simp at h9
            omega
          · exact HAa.out d (by omega)⟩
      · have hbm : ((tj : Int) != (tm : Int)) = true := by simp; omega
        clear hmm
        go_wp2_with fail
        refine HA2.out.mono ?_
        rintro e w' ⟨rfl, rfl⟩
        go_wp2_with fail
        refine HA1.out.mono ?_
        rintro e w' ⟨rfl, rfl⟩
        go_wp2_with fail
        go_ret2
        exact ⟨rfl, HE.out⟩
    · obtain rfl : i = n := by omega
      exact absurd (fun d hd => HAa.out d (by rw [HTn.out] at hd; exact hd)) HMt.out

end Go.Proofs.Ytnbecpeiodcohaa

namespace Go.Proofs.Ytnbecpeiodcohaa
open Go.RowKit
set_option linter.unusedVariables false

set_option maxRecDepth 100000 in
set_option maxHeartbeats 1000000 in
theorem pinv_any (R : Reg) (w : World) (hI : Inv R w) (p : Value) (s : List Nat) (hp : PermAt R p s) :
    Calls Try.prog 74 #[p] w (RetPm R w (invL s)) := by
  have hmf := makeFunc_run
  obtain ⟨b, rfl, hb⟩ := hp
  obtain ⟨hS, hn, vto, T, d, vf, ho, hfx, hd⟩ := hI _ _ hb
  have HI := Lib.hid hI
  have HB := Lib.hid hb
  have HO := Lib.hid ho
  have hSp := invL_perm hS
  have hil := invL_length s
  have HSp := Lib.hid hSp
  have HIl := Lib.hid hil
  clear hI hb hSp hil
  rcases hd with ⟨rfl, rfl⟩ | ⟨rfl, hvf⟩
  · obtain ⟨a, cap, rfl, _⟩ := id hfx
    rw [toI_length] at HO
    have hfx' : FixI R (.slice a s.length cap) (toI s) := by rw [toI_length] at hfx; exact hfx
    have HF := Lib.hid hfx'
    have c1 : w.cell? ⟨b, 1, none⟩ = some (.int .u32 0) := by simp [World.cell?, HO.out]
    have c2 : w.cell? ⟨b, 1 + 1, none⟩ = some (.int .i32 0) := by simp [World.cell?, HO.out]
    have z1 : w.frozen? ⟨b, 1, none⟩ = false := by simp [World.frozen?, HO.out]
    have z2 : w.frozen? ⟨b, 1 + 1, none⟩ = false := by simp [World.frozen?, HO.out]
    have hW : (w.setCell ⟨b, 1 + 1, none⟩ (.int .i32 1)).heap[b]? = some (.cells #[.slice a s.length cap, .int .u32 0, .int .i32 1, .int .u32 0, .slice none 0 0] T (0, 0)) :=
      heap_setCell_same w b 2 _ _ _ HO.out
    have htn := turn_any b T a cap s hS hn _ hW (fun w' hbt => by
      obtain ⟨a', cap', e1, e2, e3, e4⟩ := HF.out
      refine ⟨a', cap', e1, e2, e3, fun j hj => ?_⟩
      obtain ⟨b', off, c, T', f, e5, e6, e7⟩ := e4 j hj
      have hbb : b' ≠ b := fun e => by rw [e, HB.out] at e6; cases e6
      have hh : w.heap[b']? = some (.cells c T' f) := HI.out _ _ e6
      have hh' : w'.heap[b']? = some (.cells c T' f) := by
        rw [hbt.block b' (by simpa using lt_of_block hh) hbb, Below.heap_setCell _ _ _ _ hbb]
        exact hh
      exact ⟨b', off, e5, by simp [World.cell?, hh', e7]⟩)
    have hdo := do_turn b 1 (.pointer (some ⟨b, 0, none⟩)) w c1 c2 z1 z2 _ htn
    have HD := Lib.hid hdo
    clear hfx hfx' c1 c2 z1 z2 hW htn hdo ho
    go_enter Try.func74, Try.ntmps74
    go_wp2_with fail
    refine HD.out.mono ?_
    rintro e w3 ⟨rfl, w2, hq, hw3⟩
    obtain ⟨R', vf, he, hvf, c4⟩ := turn_done HI.out HB.out HF.out HO.out hq
    rw [← hw3] at he c4
    obtain ⟨a', cap', rfl, _⟩ := id hvf
    rw [toI_length, show (invL s).length = s.length from invGo_length _ _] at c4
    have HCl := Lib.hid (clone_any R' w3 he.inv _ (toI (invL s)) (show Ints w3 (.slice a' s.length cap') (toI (invL s)) by have h := hvf.ints he.inv; rwa [toI_length, HIl.out] at h) (by rw [toI_length, HIl.out]; omega))
    have HE := Lib.hid he
    clear hvf he hq hw3
    go_wp2_with fail
    refine HCl.out.mono ?_
    rintro e w4 ⟨v4, rfl, he4, ho4⟩
    obtain ⟨a4, c4', rfl, _⟩ := ho4.ints.open
    obtain ⟨R5, he5, hp5⟩ := (HE.out.trans he4).newPerm (T := 141) (Nat.le_refl _) (ho4.mono HE.out.size) HSp.out (by rw [HIl.out]; exact hn)
    have HE5 := Lib.hid he5
    have HP5 := Lib.hid hp5
    clear he4 ho4 he5 hp5
    go_wp2_with fail
    go_ret
    exact ⟨_, R5, rfl, HE5.out, HP5.out⟩
  · obtain ⟨a', cap', rfl, _⟩ := id hvf
    rw [toI_length, show (invL s).length = s.length from invGo_length _ _] at HO
    have HCl := Lib.hid (clone_any R w HI.out _ (toI (invL s)) (show Ints w (.slice a' s.length cap') (toI (invL s)) by have h := hvf.ints HI.out; rwa [toI_length, HIl.out] at h) (by rw [toI_length, HIl.out]; omega))
    have c1 : w.cell? ⟨b, 1, none⟩ = some (.int .u32 1) := by simp [World.cell?, HO.out]
    have c4 : w.cell? ⟨b, 4, none⟩ = some (.slice a' s.length cap') := by simp [World.cell?, HO.out]
    have hdo := do_done ⟨b, 1, none⟩ (.func (.func 111) #[.pointer (some ⟨b, 0, none⟩)] #[]) w c1
    have HD := Lib.hid hdo
    clear hfx hvf hdo c1 ho
    go_enter Try.func74, Try.ntmps74
    go_wp2_with fail
    refine HD.out.mono ?_
    rintro e w' ⟨rfl, rfl⟩
    go_wp2_with fail
    refine HCl.out.mono ?_
    rintro e w4 ⟨v4, rfl, he4, ho4⟩
    obtain ⟨a4, c4', rfl, _⟩ := ho4.ints.open
    obtain ⟨R5, he5, hp5⟩ := he4.newPerm (T := 141) (Nat.le_refl _) ho4 HSp.out (by rw [HIl.out]; exact hn)
    have HE5 := Lib.hid he5
    have HP5 := Lib.hid hp5
    clear he4 ho4 he5 hp5
    go_wp2_with fail
    go_ret
    exact ⟨_, R5, rfl, HE5.out, HP5.out⟩

end Go.Proofs.Ytnbecpeiodcohaa
