/- walk.seen.kind: what is looked at. Conditions: the map is registered. -/
import Derived.Test.YtnbecpeiodcohaaRowsV
import Derived.Test.YtnbecpeiodcohaaMathO
namespace Go.Proofs.Ytnbecpeiodcohaa
open Go.RowKit
set_option linter.unusedVariables false

/-- the world goes on, but for some blocks of the caller's -/
structure EvP (X : Nat → Prop) (R : Reg) (w : World) (R' : Reg) (w' : World) : Prop where
  os : w'.os = w.os
  tape : w'.tape = w.tape
  output : w'.output = w.output
  size : w.heap.size ≤ w'.heap.size
  block : ∀ k, k < w.heap.size → R k = none → ¬ X k → w'.heap[k]? = w.heap[k]?
  reg : ∀ k r, R k = some r → R' k = some r
  free : ∀ k, k < w.heap.size → R k = none → R' k = none
  inv : Inv R' w'

theorem Ev.toP {R R' : Reg} {w w' : World} (h : Ev R w R' w') (X : Nat → Prop) : EvP X R w R' w' := ⟨h.os, h.tape, h.output, h.size, fun k hk hr _ => h.block k hk hr, h.reg, h.free, h.inv⟩
theorem EvP.trans {X : Nat → Prop} {R R1 R2 : Reg} {w w1 w2 : World} (h : EvP X R w R1 w1) (k : EvP X R1 w1 R2 w2) : EvP X R w R2 w2 :=
  ⟨k.os.trans h.os, k.tape.trans h.tape, k.output.trans h.output, Nat.le_trans h.size k.size,
    fun i hi hr hx => (k.block i (Nat.lt_of_lt_of_le hi h.size) (h.free i hi hr) hx).trans (h.block i hi hr hx),
    fun i r hr => k.reg _ _ (h.reg _ _ hr), fun i hi hr => k.free i (Nat.lt_of_lt_of_le hi h.size) (h.free i hi hr), k.inv⟩
theorem EvP.setCell {X : Nat → Prop} {R R1 : Reg} {w w1 : World} (h : EvP X R w R1 w1) {p : Addr} (hx : X p.block) (hr : R1 p.block = none) (u : Value) : EvP X R w R1 (w1.setCell p u) :=
  ⟨h.os, h.tape, h.output, by simpa using h.size, fun k hk hk0 hkx => by
      rw [Below.heap_setCell _ _ _ _ (fun e => hkx (by rw [e]; exact hx))]
      exact h.block k hk hk0 hkx, h.reg, h.free, h.inv.setCell hr u⟩
/-- from an earlier world, of which these blocks are no part -/
theorem Ev.thenP {X : Nat → Prop} {R0 R R' : Reg} {w0 w w' : World} (h : Ev R0 w0 R w) (k : EvP X R w R' w') (hX : ∀ i, X i → w0.heap.size ≤ i) : Ev R0 w0 R' w' :=
  ⟨k.os.trans h.os, k.tape.trans h.tape, k.output.trans h.output, Nat.le_trans h.size k.size,
    fun i hi hr => (k.block i (Nat.lt_of_lt_of_le hi h.size) (h.free i hi hr) (fun hx => by have := hX i hx; omega)).trans (h.block i hi hr),
    fun i r hr => k.reg _ _ (h.reg _ _ hr), fun i hi hr => k.free i (Nat.lt_of_lt_of_le hi h.size) (h.free i hi hr), k.inv⟩
theorem OwnV.evP {X : Nat → Prop} {R R1 : Reg} {B : Nat} {E : TypeId} {sz : Nat} {w w1 : World} {v : Value} {n : Nat} {xs : List Value} (h : OwnV R B E sz w v n xs) (he : EvP X R w R1 w1) (hX : ∀ i, X i → i < B) : OwnV R1 B E sz w1 v n xs := by
  obtain ⟨⟨h1, h2⟩, h3⟩ := h
  rcases h2 with h2 | ⟨g, cap, cur, hv, hg, hh, r⟩
  · exact ⟨⟨h1, Or.inl h2⟩, fun k hk => by rw [h2.1] at hk; simp [Value.ownBlock] at hk⟩
  · have hn : R g = none := h3 g (by rw [hv]; rfl)
    refine ⟨⟨h1, Or.inr ⟨g, cap, cur, hv, hg, by rw [he.block g (lt_of_block hh) hn (fun hx => by have := hX g hx; omega)]; exact hh, r⟩⟩, fun k hk => ?_⟩
    rw [hv] at hk
    cases hk
    exact he.free g (lt_of_block hh) hn

/-- what was looked at: the map, of each edge its first kind and one, which vertices were met -/
def SeenAt (R : Reg) (B : Nat) (w : World) (vs p : Value) (b ge gm : Nat) (ed : List Int) (mt : List Bool) : Prop :=
  vs = .pointer (some ⟨b, 0, none⟩) ∧ B ≤ b ∧ R b = none ∧ b ≠ ge ∧ b ≠ gm ∧ ge ≠ gm ∧
  (∃ T : TypeId, w.heap[b]? = some (.cells #[p, .slice (some ⟨ge, 0, none⟩) ed.length ed.length, .slice (some ⟨gm, 0, none⟩) mt.length mt.length] T (0, 0))) ∧
  OwnI R B 3 w (.slice (some ⟨ge, 0, none⟩) ed.length ed.length) ed ∧ OwnV R B 4 1 w (.slice (some ⟨gm, 0, none⟩) mt.length mt.length) mt.length (mt.map Value.bool)

theorem SeenAt.ev {R R1 : Reg} {B : Nat} {w w1 : World} {vs p : Value} {b ge gm : Nat} {ed : List Int} {mt : List Bool} (h : SeenAt R B w vs p b ge gm ed mt) (he : Ev R w R1 w1) : SeenAt R1 B w1 vs p b ge gm ed mt := by
  obtain ⟨h1, h2, h3, h4, h5, h6, ⟨T, h7⟩, h8, h9⟩ := h
  have hl := lt_of_block h7
  exact ⟨h1, h2, he.free b hl h3, h4, h5, h6, ⟨T, by rw [he.block b hl h3]; exact h7⟩, h8.ev he, h9.ev he⟩

theorem SeenAt.putE {R : Reg} {B : Nat} {w : World} {vs p : Value} {b ge gm : Nat} {ed : List Int} {mt : List Bool} (h : SeenAt R B w vs p b ge gm ed mt) {i : Nat} (hi : i < ed.length) (y : Int) :
    SeenAt R B (w.setCell ⟨ge, i, none⟩ (.int .i64 y)) vs p b ge gm (ed.set i y) mt := by
  obtain ⟨h1, h2, h3, h4, h5, h6, ⟨T, h7⟩, h8, h9⟩ := h
  refine ⟨h1, h2, h3, h4, h5, h6, ⟨T, ?_⟩, ?_, ?_⟩
  · rw [Below.heap_setCell _ _ _ _ h4, h7, List.length_set]
  · rw [List.length_set]; exact h8.put rfl i hi y
  · exact h9.setCell (a := ⟨ge, i, none⟩) (fun e => h6 (by cases e; rfl)) _
theorem SeenAt.putM {R : Reg} {B : Nat} {w : World} {vs p : Value} {b ge gm : Nat} {ed : List Int} {mt : List Bool} (h : SeenAt R B w vs p b ge gm ed mt) (i : Nat) (y : Bool) :
    SeenAt R B (w.setCell ⟨gm, i, none⟩ (.bool y)) vs p b ge gm ed (mt.set i y) := by
  obtain ⟨h1, h2, h3, h4, h5, h6, ⟨T, h7⟩, h8, h9⟩ := h
  refine ⟨h1, h2, h3, h4, h5, h6, ⟨T, ?_⟩, ?_, ?_⟩
  · rw [Below.heap_setCell _ _ _ _ h5, h7, List.length_set]
  · exact h8.setCell (a := ⟨gm, i, none⟩) (fun e => h6 (by cases e; rfl)) _
  · rw [List.length_set]
    have := h9.put i (.bool y)
    rwa [List.map_set]

def KindQ (R : Reg) (B : Nat) (w : World) (vs p : Value) (b ge gm : Nat) (s : List Nat) (st : WSt) (e : Ending) (w' : World) : Prop :=
  ∃ R', e = .returned (.int .i64 (wkind s st : Int)) ∧ EvP (fun k => k = ge ∨ k = gm) R w R' w' ∧ SeenAt R' B w' vs p b ge gm (wed s st) (wmt s st)

theorem getB_at {l : List Bool} {i : Nat} (h : i < l.length) : (l.map Value.bool)[i]? = some (.bool (getB l i)) := by
  simp [getB, h]

set_option maxRecDepth 100000 in
set_option maxHeartbeats 2000000 in
theorem kind_any (R : Reg) (w : World) (hI : Inv R w) (B : Nat) (vs p : Value) (b ge gm : Nat) (s : List Nat) (root lone : Int) (hp : MapAt R p s root lone) (st : WSt) (hs : SeenAt R B w vs p b ge gm st.ed st.mt)
    (hd : st.d < s.length) (hel : st.ed.length = s.length / 2) (hml : (sizesL s).length ≤ st.mt.length) (hmb : st.mt.length ≤ 4194304) (hv : nth st.ed (st.d / 2) = 0 ∨ nth st.ed (st.d / 2) = 1 ∨ nth st.ed (st.d / 2) = 3) :
    Calls Try.prog 77 #[vs, .int .i64 (st.d : Int)] w (KindQ R B w vs p b ge gm s st) := by
  obtain ⟨hS, hok⟩ := hp.ok hI
  have he2 : s.length % 2 = 0 := hok.1
  have hn : s.length ≤ 131073 := hok.2.1
  have hs0 := hs
  obtain ⟨rfl, hBb, hRb, hbe, hbm, hem, ⟨T, hblk⟩, hoe, hom⟩ := hs
  obtain ⟨d, ed, mt⟩ := st
  simp only at hd hel hml hmb hv hblk hoe hom hs0 ⊢
  have hde : d / 2 < ed.length := by omega
  have hxl := xor_one_lt he2 hd
  have hvl := vtx_lt hS hxl
  have hvx := vtx_eq hS hxl
  have HMt := Lib.hid (fun R' w' (he : Ev R w R' w') => by
    have := mate_any R' w' he.inv p s root lone (he.map hp) d
    rwa [mateI_in hd] at this)
  have HVt := Lib.hid (fun R' w' (he : Ev R w R' w') => by
    have := vertex_any R' w' he.inv p s root lone (he.map hp) ((d ^^^ 1 : Nat) : Int)
    rwa [nameI_in hxl, hvx] at this)
  obtain ⟨c, hc⟩ : ∃ c, nth ed (d / 2) = c := ⟨_, rfl⟩
  obtain ⟨_, e1, _, hRe, hce, hze⟩ := hoe.headAt rfl (i := d / 2) hde
  cases e1
  rw [hc] at hce hv
  have hK : wkind s ⟨d, ed, mt⟩ = if c = 0 then (if getB mt (vtx s (d ^^^ 1)) = true then 2 else 0) else if c = 1 then 1 else 3 := by unfold wkind; rw [hc]
  have hE : wed s ⟨d, ed, mt⟩ = if c = 0 then ed.set (d / 2) ((wkind s ⟨d, ed, mt⟩ : Int) + 1) else ed := by unfold wed; rw [hc]
  have hM : wmt s ⟨d, ed, mt⟩ = if wkind s ⟨d, ed, mt⟩ = 0 then mt.set (vtx s (d ^^^ 1)) true else mt := rfl
  obtain ⟨x, hx⟩ : ∃ x, d ^^^ 1 = x := ⟨_, rfl⟩
  obtain ⟨v, hvv⟩ : ∃ v, vtx s x = v := ⟨_, rfl⟩
  rw [hx] at HMt HVt hvl hK hM
  rw [hvv] at HVt hvl hK hM
  have hq : (d : Int) / 2 = ((d / 2 : Nat) : Int) := by omega
  obtain ⟨h, hh⟩ : ∃ h, d / 2 = h := ⟨_, rfl⟩
  rw [hh] at hde hce hze hq hE hc
  have hqh : (d : Int) / 2 = (h : Int) := hq
  have k0 : w.cell? ⟨b, 0, none⟩ = some p := cells_at hblk 0
  have k1 : w.cell? ⟨b, 1, none⟩ = some (.slice (some ⟨ge, 0, none⟩) ed.length ed.length) := cells_at hblk 1
  have k2 : w.cell? ⟨b, 2, none⟩ = some (.slice (some ⟨gm, 0, none⟩) mt.length mt.length) := cells_at hblk 2
  have HS0 := Lib.hid hs0
  have HI := Lib.hid hI
  have HEr := Lib.hid (Ev.refl hI)
  have HCL := Lib.hid (fun R' w' (he : Ev R w R' w') => (by
    have hb := he.block b (lt_of_block hblk) hRb
    rw [hblk] at hb
    exact ⟨cells_at hb 0, cells_at hb 1, cells_at hb 2⟩ : w'.cell? ⟨b, 0, none⟩ = some p ∧ w'.cell? ⟨b, 1, none⟩ = some (.slice (some ⟨ge, 0, none⟩) ed.length ed.length) ∧ w'.cell? ⟨b, 2, none⟩ = some (.slice (some ⟨gm, 0, none⟩) mt.length mt.length)))
  have hel2 : ed.length ≤ 131073 := by omega
  have hvm : v < mt.length := by omega
  clear hq hI hs0 hS hok hx hvv hvx hh hc hp hoe hom hblk hel hml hvl
  rcases hv with rfl | rfl | rfl
  · rw [if_pos rfl] at hE
    by_cases hm : getB mt v = true
    · rw [if_pos rfl, if_pos hm] at hK
      rw [hK] at hE hM
      rw [if_neg (by decide)] at hM
      have HE := Lib.hid hE
      have HM := Lib.hid hM
      have HK := Lib.hid hK
      have HEd := Lib.hid (Ev.refl HEr.out.inv).drew
      clear hE hM hK
      go_enter Try.func77, Try.ntmps77
      go_wp2_with fail
      go_cut [7] (fun s7 wx => s7 = .int .i64 (v : Int) ∧ ∃ R', Ev R w R' wx)
      case first =>
        go_region_held3 (fun w' => w'.cell? ⟨b, 0, none⟩ = some p ∧ w'.cell? ⟨b, 1, none⟩ = some (.slice (some ⟨ge, 0, none⟩) ed.length ed.length) ∧ w'.cell? ⟨b, 2, none⟩ = some (.slice (some ⟨gm, 0, none⟩) mt.length mt.length)) (exact ⟨k0, k1, k2⟩) (first | (go_at_call 30; refine (HMt.out _ _ HEd.out).mono ?_; rintro e w' ⟨rfl, rfl⟩) | (go_at_call 28; refine (HVt.out _ _ HEd.out).mono ?_; rintro e w' ⟨rfl, R', he⟩; have HEd := Lib.hid (HEd.out.trans he); clear he; obtain ⟨k0, k1, k2⟩ := HCL.out _ _ HEd.out))
        all_goals (go_wp2_with fail; go_meet)
        all_goals exact ⟨rfl, _, HEd.out⟩
      case rest =>
        obtain ⟨rfl, R', he⟩ := hcut
        have HEx := Lib.hid he
        obtain ⟨k0, k1, k2⟩ := HCL.out _ _ he
        obtain ⟨_, _, _, _, _, _, _, hoe, hom⟩ := HS0.out.ev he
        obtain ⟨_, e1, hBe, hRe', hce, hze⟩ := hoe.headAt rfl (i := h) hde
        cases e1
        have hmv := getB_at (l := mt) hvm
        obtain ⟨_, e1, hBm, hRm', hcm, hzm⟩ := hom.headAt (i := v) (by rw [List.length_map]; exact hvm)
        cases e1
        rw [hmv] at hcm
        rw [hm] at hcm
        have hst := hoe.put rfl h hde (3 : Int)
        have HST := Lib.hid hst
        have HOM := Lib.hid hom
        have HOE := Lib.hid hoe
        clear he hoe hom hst hmv
        go_wp2_with fail
        go_ret
        refine ⟨R', by rw [HK.out]; rfl, ?_, ?_⟩
        · exact (HEx.out.toP _).setCell (Or.inl rfl) hRe' _
        · rw [HE.out, HM.out]
          exact (HS0.out.ev HEx.out).putE hde 3

    · rw [if_pos rfl, if_neg hm] at hK
      rw [hK] at hE hM
      rw [if_pos rfl] at hM
      have HE := Lib.hid hE
      have HM := Lib.hid hM
      have HK := Lib.hid hK
      have HEd := Lib.hid (Ev.refl HEr.out.inv).drew
      clear hE hM hK
      go_enter Try.func77, Try.ntmps77
      go_wp2_with fail
      go_cut [7] (fun s7 wx => s7 = .int .i64 (v : Int) ∧ ∃ R', Ev R w R' wx)
      case first =>
        go_region_held3 (fun w' => w'.cell? ⟨b, 0, none⟩ = some p ∧ w'.cell? ⟨b, 1, none⟩ = some (.slice (some ⟨ge, 0, none⟩) ed.length ed.length) ∧ w'.cell? ⟨b, 2, none⟩ = some (.slice (some ⟨gm, 0, none⟩) mt.length mt.length)) (exact ⟨k0, k1, k2⟩) (first | (go_at_call 30; refine (HMt.out _ _ HEd.out).mono ?_; rintro e w' ⟨rfl, rfl⟩) | (go_at_call 28; refine (HVt.out _ _ HEd.out).mono ?_; rintro e w' ⟨rfl, R', he⟩; have HEd := Lib.hid (HEd.out.trans he); clear he; obtain ⟨k0, k1, k2⟩ := HCL.out _ _ HEd.out))
        all_goals (go_wp2_with fail; go_meet)
        all_goals exact ⟨rfl, _, HEd.out⟩
      case rest =>
        obtain ⟨rfl, R', he⟩ := hcut
        have HEx := Lib.hid he
        obtain ⟨k0, k1, k2⟩ := HCL.out _ _ he
        obtain ⟨_, _, _, _, _, _, _, hoe, hom⟩ := HS0.out.ev he
        obtain ⟨_, e1, hBe, hRe', hce, hze⟩ := hoe.headAt rfl (i := h) hde
        cases e1
        have hmv := getB_at (l := mt) hvm
        obtain ⟨_, e1, hBm, hRm', hcm, hzm⟩ := hom.headAt (i := v) (by rw [List.length_map]; exact hvm)
        cases e1
        rw [hmv] at hcm
        rw [show getB mt v = false by simpa using hm] at hcm
        have hst := hoe.put rfl h hde (1 : Int)
        have HST := Lib.hid hst
        have HOM := Lib.hid hom
        have HOE := Lib.hid hoe
        clear he hoe hom hst hmv
        go_wp2_with fail
        go_ret
        refine ⟨R', by rw [HK.out]; rfl, ?_, ?_⟩
        · exact ((HEx.out.toP _).setCell (p := ⟨gm, v, none⟩) (Or.inr rfl) hRm' _).setCell (p := ⟨ge, h, none⟩) (Or.inl rfl) hRe' _
        · rw [HE.out, HM.out]
          exact ((HS0.out.ev HEx.out).putM v true).putE hde 1

  · rw [if_neg (by decide)] at hE
    rw [if_neg (by decide), if_pos rfl] at hK
    rw [hK, if_neg (by decide)] at hM
    have HE := Lib.hid hE
    have HM := Lib.hid hM
    have HK := Lib.hid hK
    clear hE hM hK
    go_enter Try.func77, Try.ntmps77
    go_wp2_with fail
    go_ret
    exact ⟨R, by rw [HK.out]; rfl, HEr.out.toP _, by rw [HE.out, HM.out]; exact HS0.out⟩
  · rw [if_neg (by decide)] at hE
    rw [if_neg (by decide), if_neg (by decide)] at hK
    rw [hK, if_neg (by decide)] at hM
    have HE := Lib.hid hE
    have HM := Lib.hid hM
    have HK := Lib.hid hK
    clear hE hM hK
    go_enter Try.func77, Try.ntmps77
    go_wp2_with fail
    go_ret
    exact ⟨R, by rw [HK.out]; rfl, HEr.out.toP _, by rw [HE.out, HM.out]; exact HS0.out⟩

end Go.Proofs.Ytnbecpeiodcohaa
