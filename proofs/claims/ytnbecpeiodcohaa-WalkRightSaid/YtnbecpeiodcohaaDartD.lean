/- package dart: Mate, Vertices, Degree, Same, New, Rooted. Conditions: maps are registered. -/
import Derived.Test.YtnbecpeiodcohaaDartC
namespace Go.Proofs.Ytnbecpeiodcohaa
open Go.RowKit
set_option linter.unusedVariables false

theorem xor_i64 (a b : Nat) (ha : a < 4611686018427387904) (hb : b < 4611686018427387904) : bits .xor .i64 (a : Int) (b : Int) = ((a ^^^ b : Nat) : Int) := by
  have hx : a ^^^ b < 2 ^ 62 := Nat.xor_lt_two_pow (by omega) (by omega)
  have h1 : (BitVec.ofInt 64 (a : Int)).toNat = a := by
    rw [BitVec.ofInt_natCast, BitVec.toNat_ofNat]; exact Nat.mod_eq_of_lt (by omega)
  have h2 : (BitVec.ofInt 64 (b : Int)).toNat = b := by
    rw [BitVec.ofInt_natCast, BitVec.toNat_ofNat]; exact Nat.mod_eq_of_lt (by omega)
  show IntKind.i64.wrap ((BitVec.ofInt 64 (a : Int) ^^^ BitVec.ofInt 64 (b : Int)).toNat : Int) = _
  rw [BitVec.toNat_xor, h1, h2]
  exact IntWalk.i64_in _ (by omega)
theorem xor_one_i64 {a : Nat} (ha : a < 4194304) : bits .xor .i64 (a : Int) 1 = ((a ^^^ 1 : Nat) : Int) := xor_i64 a 1 (by omega) (by omega)

def mateI (n : Nat) (i : Int) : Int := if 0 ≤ i ∧ i < n then ((i.toNat ^^^ 1 : Nat) : Int) else -1
theorem mateI_out {n : Nat} {i : Int} (h : i < 0 ∨ (n : Int) ≤ i) : mateI n i = -1 := by
  unfold mateI; rw [if_neg (by omega)]
theorem mateI_in {n i : Nat} (h : i < n) : mateI n (i : Int) = ((i ^^^ 1 : Nat) : Int) := by
  unfold mateI; rw [if_pos (by omega)]; simp

theorem mate_any (R : Reg) (w : World) (hI : Inv R w) (p : Value) (s : List Nat) (root lone : Int) (hp : MapAt R p s root lone) (i : Int) :
    Calls Try.prog 30 #[p, .int .i64 i] w fun e w' => e = .returned (.int .i64 (mateI s.length i)) ∧ w = w' := by
  have HL := Lib.hid (darts_any R w hI p s root lone hp)
  obtain ⟨b, rfl, hb⟩ := hp
  obtain ⟨_, hm, _⟩ := hI.mapCells hb
  have hn := hm.2.1
  clear hI hb hm
  by_cases h0 : i < 0
  · have HA := Lib.hid (mateI_out (n := s.length) (Or.inl h0))
    go_enter Try.func30, Try.ntmps30
    go_wp2_with fail
    go_ret
    exact ⟨ret_int HA.out.symm, rfl⟩
  · by_cases h1 : (s.length : Int) ≤ i
    · have HA := Lib.hid (mateI_out (n := s.length) (Or.inr h1))
      go_enter Try.func30, Try.ntmps30
      go_wp2_with (go_at_call 17; refine HL.out.mono ?_; rintro e w' ⟨rfl, rfl⟩)
      go_ret
      exact ⟨ret_int HA.out.symm, rfl⟩
    · obtain ⟨k, rfl⟩ := Int.eq_ofNat_of_zero_le (show 0 ≤ i by omega)
      have hk : k < s.length := by omega
      have HA := Lib.hid (mateI_in hk)
      have h2 : decide (s.length ≤ k) = false := by simp; omega
      have h3 : ¬ ((k : Int) < 0) := by omega
      clear h0 h1
      go_enter Try.func30, Try.ntmps30
      go_wp2_with (go_at_call 17; refine HL.out.mono ?_; rintro e w' ⟨rfl, rfl⟩)
      go_ret
      exact ⟨ret_int (by rw [HA.out, xor_one_i64 (by omega)]), rfl⟩

set_option maxRecDepth 100000 in
set_option maxHeartbeats 1000000 in
theorem vertices_any (R : Reg) (w : World) (hI : Inv R w) (p : Value) (s : List Nat) (root lone : Int) (hp : MapAt R p s root lone) :
    Calls Try.prog 60 #[p] w (RetV R w (.int .i64 ((sizesL s).length + lone))) := by
  obtain ⟨b, rfl, hb⟩ := hp
  have HC := Lib.hid (fun w' (h : Inv R w') => count_any R w' h b s root lone hb 0 s (Or.inl ⟨rfl, rfl⟩))
  obtain ⟨hs, hm, _, _, hblt, bp, bq, h1, h2, c0, c6, c12, c13⟩ := hI.mapCells hb
  have hsz := sizesL_le hs
  obtain ⟨_, hm1, hm2, hm3, _⟩ := hm
  obtain ⟨k, hk⟩ : ∃ k, (sizesL s).length = k := ⟨_, rfl⟩
  have HI := Lib.hid hI
  have HB := Lib.hid hb
  have hI' := Lib.hid hI.drew
  have HK := Lib.hid hk
  rw [hk] at hsz ⊢
  clear hI hb h1 h2 hs hk
  have hcells : ∀ R' (w' : World), Ev R w.drew R' w' → w'.cell? ⟨b, 13, none⟩ = some (.int .i64 lone) := fun R' w' he => by
    obtain ⟨_, _, _, _, _, _, _, _, _, _, _, _, h⟩ := he.inv.mapCells (he.reg _ _ HB.out)
    exact h
  have HCL := Lib.hid hcells
  clear hcells
  go_enter Try.func60, Try.ntmps60
  go_wp2_with fail
  have hw : IntKind.i64.wrap ((k : Int) + lone) = (k : Int) + lone := IntWalk.i64_in _ (by omega)
  go_region_with (go_at_call 106; refine (HC.out _ hI'.out).mono ?_; rintro e w' ⟨rfl, R', _, _, _, _, he, _, _, _, _⟩; have c13' := HCL.out R' w' he; have HE := Lib.hid he; clear he; rw [HK.out])
  all_goals go_wp2_with fail
  all_goals go_ret
  all_goals exact ⟨rfl, R', ((Ev.refl HI.out).drew).trans HE.out⟩

def degI (s : List Nat) (lone : Int) (v : Int) : Int := if v < 0 ∨ (sizesL s).length + lone ≤ v then -1 else if (sizesL s).length ≤ v then 0 else nth (sizesL s) v.toNat

end Go.Proofs.Ytnbecpeiodcohaa
