/- walk.Tree, Order, Right. Conditions: what is read lies in memory, the map is registered. -/
import Derived.Test.YtnbecpeiodcohaaWalkF
import Derived.Test.YtnbecpeiodcohaaWalkB
namespace Go.Proofs.Ytnbecpeiodcohaa
open Go.RowKit
set_option linter.unusedVariables false

def treeL (xs : List (Int × Int)) : List Int := xs.foldl (fun l x => if x.2 = 0 then l ++ [x.1] else l) []
theorem treeL_succ {xs : List (Int × Int)} {i : Nat} (h : i < xs.length) : treeL (xs.take (i + 1)) = if (nthS xs i).2 = 0 then treeL (xs.take i) ++ [(nthS xs i).1] else treeL (xs.take i) := by
  unfold treeL
  rw [List.take_add_one, List.getElem?_eq_getElem h, List.foldl_append, nthS_get h]
  rfl
theorem treeL_length (xs : List (Int × Int)) : ∀ (i : Nat), i ≤ xs.length → (treeL (xs.take i)).length ≤ i
  | 0, _ => by simp [treeL]
  | i + 1, h => by
    have ih := treeL_length xs i (by omega)
    rw [treeL_succ (by omega)]
    split
    · simp; omega
    · omega
theorem treeL_mem {xs : List (Int × Int)} {d : Int} : ∀ (i : Nat), i ≤ xs.length → d ∈ treeL (xs.take i) → ∃ j, j < i ∧ (nthS xs j).1 = d
  | 0, _, h => by simp [treeL] at h
  | i + 1, hi, h => by
    rw [treeL_succ (by omega)] at h
    split at h
    · rcases List.mem_append.1 h with h | h
      · obtain ⟨j, h1, h2⟩ := treeL_mem i (by omega) h
        exact ⟨j, by omega, h2⟩
      · simp at h
        exact ⟨i, by omega, h.symm⟩
    · obtain ⟨j, h1, h2⟩ := treeL_mem i (by omega) h
      exact ⟨j, by omega, h2⟩

set_option maxRecDepth 100000 in
set_option maxHeartbeats 2000000 in
theorem tree_any (R : Reg) (w : World) (hI : Inv R w) (a : Option Addr) (n cap : Nat) (xs : List (Int × Int)) (hv : FreeS R w (.slice a n cap) xs) (hn : n ≤ 1000000) :
    Calls Try.prog 21 #[.slice a n cap] w (RetOwn R w (treeL xs)) := by
  have HL := Lib.hid hv.length
  have HV := Lib.hid hv
  have HI := Lib.hid hI
  clear hv hI
  go_enter Try.func21, Try.ntmps21
  go_wp2_with fail
  go_loopg [3, 8] n (fun g v3 v8 wr => ∃ (i : Nat) (a3 : Option Addr) (m3 c3 : Nat), i ≤ n ∧ n - i ≤ g ∧ v3 = .slice a3 m3 c3 ∧ v8 = .int .i64 (i : Int) ∧ Ev R w R wr ∧ OwnI R w.heap.size 3 wr (.slice a3 m3 c3) (treeL (xs.take i)))
  case atStart => exact ⟨0, none, 0, 0, by omega, by omega, rfl, rfl, Ev.refl HI.out, OwnI.nil R w.heap.size 3 w⟩
  case round =>
    obtain ⟨i, a3, m3, c3, hi, hg, rfl, rfl, he, ho⟩ := hrel
    have HE := Lib.hid he
    have HO := Lib.hid ho
    clear he ho
    by_cases hil : i < n
    · obtain ⟨gb, off, rfl, hgn, c0, c1⟩ := (HV.out.ev HE.out).at hil
      have hsucc := treeL_succ (xs := xs) (i := i) (by have := HL.out; omega)
      have hlen := treeL_length xs i (by have := HL.out; omega)
      obtain ⟨x, hx⟩ : ∃ x, nthS xs i = x := ⟨_, rfl⟩
      rw [hx] at c0 c1 hsucc
      obtain ⟨d, k⟩ := x
      simp only at c0 c1 hsucc
      have HS := Lib.hid hsucc
      have HLn := Lib.hid (show (treeL (xs.take i)).length ≤ 8388607 by omega)
      have hz := HE.out.size
      have HE2 := Lib.hid (HE.out.alloc (.cells #[.int .i64 d, .int .i64 k] 41))
      have HO2 := Lib.hid (HO.out.alloc (.cells #[.int .i64 d, .int .i64 k] 41))
      clear hsucc hlen hx
      by_cases hk : k = 0
      · subst hk
        have HE3 := Lib.hid (HE2.out.alloc (.cells #[.int .i64 d] 3))
        have HO3 := Lib.hid (HO2.out.alloc (.cells #[.int .i64 d] 3))
        go_wp2_with (at_builtin; refine wpList_app_int (R := R) (B := w.heap.size) rfl _ _ rfl HO3.out rfl ⟨wr.heap.size + 1, 0, none⟩ 1 (d : Int) rfl ?h0a ?h0b ?h0c ?h0d ?_)
        case h0b => exact HLn.out
        case h0c => first | omega | (simp; omega)
        case h0d => exact fun q hq => HE3.out.inv.none_of_ge (by simp at hq ⊢; omega)
        intro v' w5 ho5 hg5 _
        obtain ⟨a5, c5, rfl, _⟩ := ho5.ints.open
        have HE5 := Lib.hid (HE3.out.app HO3.out (Nat.le_refl _) hg5)
        have HO5 := Lib.hid ho5
        clear ho5 hg5
        go_wp2_with fail
        go_roundg (n - (i + 1))
        case measure => omega
        case rel => exact ⟨i + 1, _, _, _, by omega, by omega, rfl, by go_num, HE5.out, by have h := HS.out; simp only [if_true] at h; rw [h]; exact HO5.out⟩
      · have hk' : (k == (0 : Int)) = false := by simp [hk]
        go_wp2_with fail
        go_roundg (n - (i + 1))
        case measure => omega
        case rel => exact ⟨i + 1, _, _, _, by omega, by omega, rfl, by go_num, HE2.out, by have h := HS.out; rw [if_neg hk] at h; rw [h]; exact HO2.out⟩
    · obtain rfl : i = n := by omega
      have e : xs.take i = xs := by rw [HL.out]; exact List.take_length
      have ho := HO.out
      rw [e] at ho
      go_wp2_with fail
      go_ret
      exact ⟨_, rfl, HE.out, ho⟩

/-- the vertices, as they are met -/
def ordL (s : List Nat) (xs : List (Int × Int)) : List Int := (if xs.length = 0 then [] else [((vtx s (nthS xs 0).1.toNat : Nat) : Int)]) ++ (treeL xs).map fun d => ((vtx s (d.toNat ^^^ 1) : Nat) : Int)

theorem dis_ne {u v : Value} (h : ∀ k, u.ownBlock = some k → v.ownBlock ≠ some k) : v.ownBlock = none ∨ v.ownBlock ≠ u.ownBlock := by
  cases hu : u.ownBlock with
  | none =>
    cases hv : v.ownBlock with
    | none => exact Or.inl rfl
    | some k => exact Or.inr (by simp)
  | some k => exact Or.inr (h k hu)

def RetOwnE (R : Reg) (w : World) (xs : List Int) (e : Ending) (w' : World) : Prop := ∃ v R', e = .returned v ∧ Ev R w R' w' ∧ OwnI R' w.heap.size 3 w' v xs

set_option maxRecDepth 100000 in
set_option maxHeartbeats 2000000 in
theorem order_any (R : Reg) (w : World) (hI : Inv R w) (p : Value) (s : List Nat) (rt lone : Int) (hp : MapAt R p s rt lone) (a : Option Addr) (n cap : Nat) (xs : List (Int × Int)) (hv : FreeS R w (.slice a n cap) xs) (hn : n ≤ 1000000)
    (hd : ∀ i, i < n → 0 ≤ (nthS xs i).1 ∧ (nthS xs i).1 < (s.length : Int)) :
    Calls Try.prog 27 #[p, .slice a n cap] w (RetOwnE R w (ordL s xs)) := by
  obtain ⟨hS, hok⟩ := hp.ok hI
  have he2 : s.length % 2 = 0 := hok.1
  have hsn : s.length ≤ 131073 := hok.2.1
  have HL := Lib.hid hv.length
  have HMt := Lib.hid (fun R' w' (he : Ev R w R' w') (d : Nat) (hd : d < s.length) => by
    have := mate_any R' w' he.inv _ s rt lone (he.map hp) d
    rwa [mateI_in hd] at this)
  have HVx := Lib.hid (fun R' w' (he : Ev R w R' w') (d : Nat) (hd : d < s.length) => by
    have := vertex_any R' w' he.inv _ s rt lone (he.map hp) (d : Int)
    rwa [nameI_in hd, vtx_eq hS hd] at this)
  have HTr := Lib.hid (fun R' w' (he : Ev R w R' w') => tree_any R' w' he.inv a n cap xs (hv.ev he) hn)
  have HXL := Lib.hid (fun d (hd : d < s.length) => xor_one_lt he2 hd)
  have HTd : Hid (∀ i, i < (treeL xs).length → ∃ d : Nat, nth (treeL xs) i = (d : Int) ∧ d < s.length) := Lib.hid fun i hi => by
    have hm : nth (treeL xs) i ∈ treeL xs := by
      unfold nth
      rw [List.getD_eq_getElem?_getD, List.getElem?_eq_getElem hi]
      exact List.getElem_mem hi
    have e : xs.take n = xs := by rw [HL.out]; exact List.take_length
    obtain ⟨j, h1, h2⟩ := treeL_mem (xs := xs) n (by have := HL.out; omega) (by rw [e]; exact hm)
    have := hd j h1
    exact ⟨(nthS xs j).1.toNat, by omega, by omega⟩
  have htl : (treeL xs).length ≤ n := by
    have := treeL_length xs n (by have := HL.out; omega)
    rwa [show xs.take n = xs by rw [HL.out]; exact List.take_length] at this
  obtain ⟨bp, rfl, hbp⟩ := hp
  have HV := Lib.hid hv
  have HI := Lib.hid hI
  have HD := Lib.hid hd
  obtain ⟨T, hT⟩ : ∃ T, treeL xs = T := ⟨_, rfl⟩
  have hord : ordL s xs = (if xs.length = 0 then [] else [((vtx s (nthS xs 0).1.toNat : Nat) : Int)]) ++ T.map fun d => ((vtx s (d.toNat ^^^ 1) : Nat) : Int) := by unfold ordL; rw [hT]
  rw [hT] at HTr HTd htl
  rw [hord]
  obtain ⟨A, hA⟩ : ∃ A : List Int, (if xs.length = 0 then [] else [((vtx s (nthS xs 0).1.toNat : Nat) : Int)]) = A := ⟨_, rfl⟩
  have hA0 : ∀ x ∈ A, 0 ≤ x := by
    intro x hx
    rw [← hA] at hx
    split at hx
    · simp at hx
    · simp at hx; omega
  have hAl : A.length ≤ 1 := by rw [← hA]; split <;> simp
  rw [hA]
  have HA := Lib.hid hA
  have HA0 := Lib.hid hA0
  have HAl := Lib.hid hAl
  clear hT hord hA hA0 hAl hv hI hd hbp hok
  go_enter Try.func27, Try.ntmps27
  go_upto_if 10 with fail
  go_cut [5] (fun s5 wx => ∃ (a5 : Option Addr) (c5 : Nat) (R5 : Reg), s5 = .slice a5 A.length c5 ∧ Ev R w R5 wx ∧ OwnI R5 w.heap.size 3 wx (.slice a5 A.length c5) A)
  case first =>
    by_cases hn0 : n = 0
    · subst hn0
      have hA1 : A = [] := by rw [← HA.out, if_pos HL.out.symm]
      subst hA1
      go_wp2_with fail
      go_meet
      exact ⟨none, 0, R, rfl, Ev.refl HI.out, OwnI.nil _ _ _ _⟩
    · obtain ⟨gb, off, rfl, hgn, c0, c1⟩ := HV.out.at (i := 0) (by omega)
      have hd0 := HD.out 0 (by omega)
      obtain ⟨d, hdd⟩ : ∃ d : Nat, (nthS xs 0).1 = (d : Int) := ⟨(nthS xs 0).1.toNat, by omega⟩
      rw [hdd] at c0 hd0
      have hA1 : A = [((vtx s d : Nat) : Int)] := by
        rw [← HA.out, if_neg (by have := HL.out; omega), hdd]; rfl
      subst hA1
      have hds : d < s.length := by omega
      have c0' : w.cell? ⟨gb, off, none⟩ = some (.int .i64 (d : Int)) := by simpa using c0
      have HV1 := Lib.hid (HVx.out R w (Ev.refl HI.out) d hds)
      clear c0 hdd
      obtain ⟨v, hv⟩ : ∃ v, vtx s d = v := ⟨_, rfl⟩
      rw [hv] at HV1
      have HVV := Lib.hid hv
      clear hv
      go_wp2_with fail
      refine HV1.out.mono ?_
      rintro e w1 ⟨rfl, R1, he1⟩
      have HE1 := Lib.hid he1
      have HE2 := Lib.hid (he1.alloc (.cells #[.int .i64 (v : Int)] 3))
      have HO2 := Lib.hid (OwnI.nil R1 w.heap.size 3 (w1.alloc (.cells #[.int .i64 (v : Int)] 3)))
      have hz := he1.size
      clear he1
      go_wp2_with (at_builtin; refine wpList_app_int (R := R1) (B := w.heap.size) rfl _ _ rfl HO2.out rfl ⟨w1.heap.size, 0, none⟩ 1 (v : Int) rfl ?h0a ?h0b ?h0c ?h0d ?_)
      case h0a => simp
      case h0b => simp
      case h0c => first | omega | (simp; omega)
      case h0d => exact fun q hq => HE2.out.inv.none_of_ge (by simp at hq ⊢; omega)
      intro v' w5 ho5 hg5 _
      obtain ⟨a5, c5, rfl, _⟩ := ho5.ints.open
      have HE5 := Lib.hid (HE2.out.app HO2.out (Nat.le_refl _) hg5)
      have HO5 := Lib.hid ho5
      clear ho5 hg5
      go_wp2_with fail
      go_meet
      rw [HVV.out]
      exact ⟨a5, c5, R1, rfl, HE5.out, HO5.out⟩
  case rest =>
    obtain ⟨a5, c5, R5, rfl, he5, ho5⟩ := hcut
    obtain ⟨w5, hw5⟩ : ∃ w5, w5 = wc := ⟨_, rfl⟩
    subst hw5
    have HE5 := Lib.hid he5
    have HO5 := Lib.hid ho5
    have HO5L := Lib.hid (fun k h => (ho5.lt k h).2)
    clear he5 ho5
    go_wp2_with fail
    refine (HTr.out _ _ HE5.out).mono ?_
    rintro e w6 ⟨v6, rfl, he6, ho6⟩
    obtain ⟨a6, c6, rfl, _⟩ := ho6.ints.open
    have HE6 := Lib.hid (HE5.out.trans he6)
    have HO5 := Lib.hid (HO5.out.ev he6)
    have HO6 := Lib.hid ho6
    clear he6 ho6
    obtain ⟨m, hm⟩ : ∃ m, T.length = m := ⟨_, rfl⟩
    rw [hm] at HO6 HTd htl ⊢
    have HM := Lib.hid hm
    clear hm
    have HZ6 := Lib.hid HE6.out.size
    have hdis : ∀ k, (Value.slice a5 A.length c5).ownBlock = some k → (Value.slice a6 m c6).ownBlock ≠ some k := fun k h1 h2 => by
      have := (HO5L.out k h1)
      have := (HO6.out.lt k h2).1
      omega
    have HDis := Lib.hid hdis
    clear hdis
    go_wp2_with fail
    go_loopg [5, 23] m (fun g v5 v23 wr => ∃ (i : Nat) (a7 : Option Addr) (m7 c7 : Nat) (R7 : Reg), i ≤ m ∧ m - i ≤ g ∧ v5 = .slice a7 m7 c7 ∧ v23 = .int .i64 (i : Int) ∧ Ev R w R7 wr ∧ OwnI R7 w5.heap.size 3 wr (.slice a6 m c6) T ∧ (∀ k, (Value.slice a7 m7 c7).ownBlock = some k → (Value.slice a6 m c6).ownBlock ≠ some k) ∧ OwnI R7 w.heap.size 3 wr (.slice a7 m7 c7) (A ++ (T.take i).map fun d => ((vtx s (d.toNat ^^^ 1) : Nat) : Int)))
    case atStart => exact ⟨0, a5, A.length, c5, R5, by omega, by omega, rfl, rfl, HE6.out, HO6.out, HDis.out, by simpa using HO5.out⟩
    case round =>
      obtain ⟨i, a7, m7, c7, R7, hi, hg, rfl, rfl, he, hf, hdis, ho⟩ := hrel
      have HDs := Lib.hid hdis
      have HE := Lib.hid he
      have HO := Lib.hid ho
      have HF := Lib.hid hf
      clear he ho hf hdis
      by_cases hil : i < m
      · obtain ⟨gb, rfl, _, _, hc, _⟩ := HF.out.headAt HM.out (i := i) hil
        obtain ⟨d, hdT, hds⟩ := HTd.out i hil
        rw [hdT] at hc
        have hsucc : (T.take (i + 1)).map (fun d => ((vtx s (d.toNat ^^^ 1) : Nat) : Int)) = (T.take i).map (fun d => ((vtx s (d.toNat ^^^ 1) : Nat) : Int)) ++ [((vtx s (d ^^^ 1) : Nat) : Int)] := by
          rw [List.take_add_one, List.getElem?_eq_getElem (by rw [HM.out]; exact hil)]
          have e : T[i]'(by rw [HM.out]; exact hil) = (d : Int) := by rw [← hdT]; simp [nth, HM.out, hil]
          rw [e]
          simp
        have HS := Lib.hid hsucc
        clear hsucc hdT
        have hxl := HXL.out d hds
        have HM1 := Lib.hid (HMt.out _ _ HE.out d hds)
        have HV1 := Lib.hid (HVx.out _ _ HE.out (d ^^^ 1) hxl)
        obtain ⟨x, hx⟩ : ∃ x, d ^^^ 1 = x := ⟨_, rfl⟩
        rw [hx] at HM1 HV1 HS
        obtain ⟨v, hv⟩ : ∃ v, vtx s x = v := ⟨_, rfl⟩
        rw [hv] at HV1 HS
        clear hv hx hxl
        go_wp2_with fail
        refine HM1.out.mono ?_
        rintro e w8 ⟨rfl, rfl⟩
        go_wp2_with fail
        refine HV1.out.mono ?_
        rintro e w8 ⟨rfl, R8, he8⟩
        obtain ⟨L, hL⟩ : ∃ L, (A ++ (T.take i).map fun d => ((vtx s (d.toNat ^^^ 1) : Nat) : Int)) = L := ⟨_, rfl⟩
        rw [hL] at HO
        have HLn : Hid (L.length ≤ 8388607) := Lib.hid (by rw [← hL]; simp; have := HAl.out; omega)
        have HLL := Lib.hid hL
        clear hL
        have HE8 := Lib.hid ((HE.out.trans he8).alloc (.cells #[.int .i64 (v : Int)] 3))
        have HO8 := Lib.hid ((HO.out.ev he8).alloc (.cells #[.int .i64 (v : Int)] 3))
        have HF8 := Lib.hid ((HF.out.ev he8).alloc (.cells #[.int .i64 (v : Int)] 3))
        have hz8 : w.heap.size ≤ w8.heap.size := (HE.out.trans he8).size
        clear he8
        go_wp2_with (at_builtin; refine wpList_app_int (R := R8) (B := w.heap.size) rfl _ _ rfl HO8.out rfl ⟨w8.heap.size, 0, none⟩ 1 (v : Int) rfl ?h1a ?h1b ?h1c ?h1d ?_)
        case h1a => simp
        case h1b => exact HLn.out
        case h1c => first | omega | (simp; omega)
        case h1d => exact fun q hq => HE8.out.inv.none_of_ge (by simp at hq ⊢; omega)
        intro v' w9 ho9 hg9 hs9
        obtain ⟨a9, c9, rfl, _⟩ := ho9.ints.open
        have HE9 := Lib.hid (HE8.out.app HO8.out (Nat.le_refl _) hg9)
        have HF9 := Lib.hid (HF8.out.kept hg9 (dis_ne HDs.out))
        have HO9 := Lib.hid ho9
        have hdis9 : ∀ k, (Value.slice a9 (L ++ [(v : Int)]).length c9).ownBlock = some k → (Value.slice (some ⟨gb, 0, none⟩) m c6).ownBlock ≠ some k := fun k h1 h2 => by
          rcases hs9 k h1 with h | h
          · exact HDs.out k h h2
          · have := (HF8.out.lt k h2).2
            simp at this h
            omega
        have HD9 := Lib.hid hdis9
        clear ho9 hg9 hs9 hdis9
        go_wp2_with fail
        go_roundg (m - (i + 1))
        case measure => omega
        case rel => exact ⟨i + 1, _, _, _, R8, by omega, by omega, rfl, by go_num, HE9.out, HF9.out, HD9.out, by rw [HS.out, ← List.append_assoc, HLL.out]; exact HO9.out⟩
      · obtain rfl : i = m := by omega
        have e : T.take i = T := by rw [← HM.out]; exact List.take_length
        have ho := HO.out
        rw [e] at ho
        have hlen : m7 = (A ++ T.map fun d => ((vtx s (d.toNat ^^^ 1) : Nat) : Int)).length := ho.ints.length_eq
        have hnn : ∀ j, j < m7 → 0 ≤ nth (A ++ T.map fun d => ((vtx s (d.toNat ^^^ 1) : Nat) : Int)) j := by
          intro j hj
          rw [hlen] at hj
          unfold nth
          rw [List.getD_eq_getElem?_getD, List.getElem?_eq_getElem hj]
          show 0 ≤ _
          have hm := List.getElem_mem hj
          rcases List.mem_append.1 hm with h | h
          · exact HA0.out _ h
          · simp only [List.mem_map] at h
            obtain ⟨d, _, h⟩ := h
            rw [Option.getD_some, ← h]
            omega
        have HDl := Lib.hid (delete_none wr a7 m7 c7 _ ho.ints (by rw [hlen]; simp; have := HAl.out; have := HM.out; omega) hnn)
        have HO2 := Lib.hid ho
        clear ho hlen hnn
        go_wp2_with fail
        refine HDl.out.mono ?_
        rintro e w8 ⟨rfl, rfl⟩
        go_wp2_with fail
        go_ret
        exact ⟨_, R7, rfl, HE.out, HO2.out⟩

end Go.Proofs.Ytnbecpeiodcohaa
