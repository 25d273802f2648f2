/- strings.Builder: String (laid by the kit's lay-shelf and lay-plain, its numbers by name), WriteByte; mixed.Word's text. Conditions: what is read lies in memory. -/
import Derived.Shelf.Strings.Builder1
import Derived.Test.YtnbecpeiodcohaaWalkD
namespace Go.Proofs.Ytnbecpeiodcohaa
open Go.RowKit Go.Shelf
set_option linter.unusedVariables false

def lays169_ren : Go.Shelf.Ren := ⟨fun | 169 => 85 | n => n, fun | 70 => 116 | 9 => 9 | 0 => 0 | 72 => 118 | 37 => 22 | 127 => 149 | 3 => 3 | 5 => 5 | n => n, fun | n => n⟩
theorem lays169 : Go.Proofs.Lays.n169 Try.prog lays169_ren := {
  mixed := by kernel_rfl
  f169 := Try.func85.trans (congrArg some (by kernel_rfl))
  t0 := Try.underlying0
  a0 := Try.isAgg0
  z0 := Try.sizeOf0
  v0 := Try.zeroValue0
  t3 := Try.underlying3
  a3 := Try.isAgg3
  z3 := Try.sizeOf3
  v3 := Try.zeroValue3
  t9 := Try.underlying9
  a9 := Try.isAgg9
  z9 := Try.sizeOf9
  v9 := Try.zeroValue9
  t37 := Try.underlying22
  a37 := Try.isAgg22
  z37 := Try.sizeOf22
  v37 := Try.zeroValue22
  t70 := Try.underlying116
  a70 := Try.isAgg116
  z70 := Try.sizeOf116
  v70 := Try.zeroValue116
  t72 := Try.underlying118
  a72 := Try.isAgg118
  z72 := Try.sizeOf118
  v72 := Try.zeroValue118
  t127 := Try.underlying149
  a127 := Try.isAgg149
  z127 := Try.sizeOf149
  v127 := Try.zeroValue149 }
theorem Builder_Extra_169 : Builder.Extra Try.prog lays169_ren := {
  sizeBuilder := by kernel_rfl
  liesBuilder := by kernel_rfl
  t5 := Try.underlying5
  a5 := Try.isAgg5
  z5 := Try.sizeOf5
  v5 := Try.zeroValue5
  infoByte := by kernel_rfl
  cellsByte := by kernel_rfl
  sizeByte := by kernel_rfl
  neB5 := by decide }
open Go.RowKit in
/-- (*strings.Builder).String: "String returns the accumulated string.": WHATEVER THE BUILDER HOLDS. (LAID: no walk: one application.) -/
theorem Builder_String_any (B b : Nat) (l : List UInt8) (w : World) (h : Lib.IsBuilder 118 5 B b (Lib.byteCells l) w) (hBw : B ≤ w.heap.size) :
    Calls Try.prog 85 #[.pointer (some ⟨b, 0, none⟩)] w fun e w' => e = .returned (.string ⟨l.toArray⟩) ∧ Below B w w' := Any.Builder_String_any lays169 Builder_Extra_169 B b l w h hBw

/-- a Builder of the call's own, in a registry -/
def BuildAt (R : Reg) (B : Nat) (w : World) (b : Nat) (p : Value) (bs : List Int) : Prop :=
  ∃ v : Value, B ≤ b ∧ R b = none ∧ w.heap[b]? = some (.cells #[p, v] 118 (0, 0)) ∧ OwnV R (b + 1) 5 1 w v bs.length (bs.map (Value.int .u8))

theorem sizeBld : (Try.prog.info? 118).map (fun j => j.size) = some 2 := by kernel_rfl

theorem set20 {w : World} {b : Nat} {x y z : Value} {T : TypeId} (h : w.heap[b]? = some (.cells #[x, y] T (0, 0))) : (w.setCell ⟨b, 0, none⟩ z).heap[b]? = some (.cells #[z, y] T (0, 0)) := heap_setCell_same w b 0 _ T z h
theorem set21 {w : World} {b : Nat} {x y z : Value} {T : TypeId} (h : w.heap[b]? = some (.cells #[x, y] T (0, 0))) : (w.setCell ⟨b, 1, none⟩ z).heap[b]? = some (.cells #[x, z] T (0, 0)) := heap_setCell_same w b 1 _ T z h

set_option maxHeartbeats 1000000 in
set_option maxRecDepth 100000 in
theorem ccheck_used (b : Nat) (w : World) (h0 : w.cell? ⟨b, 0, none⟩ = some (.pointer (some ⟨b, 0, none⟩))) :
    Calls Try.prog 115 #[.pointer (some ⟨b, 0, none⟩)] w fun e w' => e = .returned (.tuple #[]) ∧ w' = w := by
  obtain ⟨j, hj, _⟩ := Option.map_eq_some_iff.1 sizeBld
  go_enter Try.func115, Try.ntmps115
  go_wp2
  rw [Lib.run_neq_ptr_same w _ Try.underlying116 hj]
  go_wp2
  go_end0
  exact ⟨rfl, rfl⟩

set_option maxHeartbeats 1000000 in
set_option maxRecDepth 100000 in
theorem ccheck_fresh (b : Nat) (w : World) (h0 : w.cell? ⟨b, 0, none⟩ = some (.pointer none)) (hsh : w.shape? b = some (118, 2)) (hfz : w.frozen? ⟨b, 0, none⟩ = false) :
    Calls Try.prog 115 #[.pointer (some ⟨b, 0, none⟩)] w fun e w' => e = .returned (.tuple #[]) ∧ w' = w.setCell ⟨b, 0, none⟩ (.pointer (some ⟨b, 0, none⟩)) := by
  obtain ⟨j, hj, hjs⟩ := Option.map_eq_some_iff.1 sizeBld
  go_enter Try.func115, Try.ntmps115
  go_wp2
  rw [Lib.run_to_unsafe w ⟨b, 0, none⟩ Try.underlying116 Try.underlying158 hj (by rw [hjs]; decide) hsh (Nat.zero_lt_succ 1)]
  simp only [Result.andThen]
  rw [Oper.upon_value]
  go_wp2
  rw [run_callFunc_extern Try.func129 (by kernel_rfl) (by kernel_rfl) (by kernel_rfl) (e := Extern.AbiNoEscape.same) (by kernel_rfl)]
  rw [Lib.run_noEscape]
  simp only [Result.andThen]
  rw [Oper.upon_value]
  go_wp2
  rw [Lib.run_from_unsafe w ⟨b, 0, none⟩ Try.underlying158 Try.underlying116 hj hsh (by kernel_rfl)]
  simp only [Result.andThen]
  rw [Oper.upon_value]
  go_wp2
  go_end0
  exact ⟨rfl, rfl⟩

theorem BuildAt.ev {R R1 : Reg} {B : Nat} {w w1 : World} {b : Nat} {p : Value} {bs : List Int} (h : BuildAt R B w b p bs) (he : Ev R w R1 w1) : BuildAt R1 B w1 b p bs := by
  obtain ⟨v, h2, h3, h4, h5⟩ := h
  have hl := lt_of_block h4
  exact ⟨v, h2, he.free b hl h3, by rw [he.block b hl h3]; exact h4, h5.ev he⟩

theorem ccheck_any (R0 : Reg) (w0 : World) (R : Reg) (w : World) (he : Ev R0 w0 R w) (B : Nat) (hB : w0.heap.size ≤ B) (b : Nat) (p : Value) (hp : p = .pointer none ∨ p = .pointer (some ⟨b, 0, none⟩)) (bs : List Int) (hb : BuildAt R B w b p bs) :
    Calls Try.prog 115 #[.pointer (some ⟨b, 0, none⟩)] w fun e w' => e = .returned (.tuple #[]) ∧ Ev R0 w0 R w' ∧ BuildAt R B w' b (.pointer (some ⟨b, 0, none⟩)) bs := by
  have hb0 := hb
  obtain ⟨v, h2, h3, h4, h5⟩ := hb
  rcases hp with rfl | rfl
  · refine (ccheck_fresh b w (by simp [World.cell?, h4]) (by simp [World.shape?, h4]) (by simp [World.frozen?, h4])).mono ?_
    rintro e w' ⟨rfl, rfl⟩
    exact ⟨rfl, he.setCell (p := ⟨b, 0, none⟩) (by show _ ≤ b; omega) h3 _, v, h2, h3, set20 h4, h5.setCell (fun e => by have := (h5.lt _ e).1; simp at this; omega) _⟩
  · refine (ccheck_used b w (by simp [World.cell?, h4])).mono ?_
    rintro e w' ⟨rfl, rfl⟩
    exact ⟨rfl, he, hb0⟩

set_option maxHeartbeats 1000000 in
set_option maxRecDepth 100000 in
theorem wbyte_any (R0 : Reg) (w0 : World) (R : Reg) (w : World) (he : Ev R0 w0 R w) (B : Nat) (hB : w0.heap.size ≤ B) (b : Nat) (p : Value) (hp : p = .pointer none ∨ p = .pointer (some ⟨b, 0, none⟩)) (bs : List Int) (hb : BuildAt R B w b p bs) (hn : bs.length ≤ 4194304) (c : Int) :
    Calls Try.prog 84 #[.pointer (some ⟨b, 0, none⟩), .int .u8 c] w fun e w' => e = .returned .nilIface ∧ Ev R0 w0 R w' ∧ BuildAt R B w' b (.pointer (some ⟨b, 0, none⟩)) (bs ++ [c]) := by
  have HC := Lib.hid (ccheck_any R0 w0 R w he B hB b p hp bs hb)
  clear he hb hp
  go_enter Try.func84, Try.ntmps84
  go_wp2_with fail
  refine HC.out.mono ?_
  rintro e w1 ⟨rfl, he, v, h2, h3, h4, h5⟩
  have k1 : w1.cell? ⟨b, 1, none⟩ = some v := cells_at h4 1
  have hzb := lt_of_block h4
  have HAP := Lib.hid (h5.alloc (.cells #[.int .u8 c] 5))
  have HEA := Lib.hid (he.alloc (.cells #[.int .u8 c] 5))
  have HBK := Lib.hid h4
  clear he h4 h5 HC
  go_wp2_with (at_builtin; refine wpList_app_row 22 5 1 1 _ Try.underlying22 uint8_info rfl (by omega) (by omega) (R := R) (B := b + 1) rfl _ _ rfl HAP.out rfl ⟨w1.heap.size, 0, none⟩ 1 1 [.int .u8 c] rfl rfl ?g1 ?g2 ?g3 ?g4 ?g5 ?_)
  case g1 => exact cells_new _ _ _
  case g2 =>
    intro u hu
    simp only [List.mem_cons, List.not_mem_nil, or_false] at hu
    subst hu; rfl
  case g3 => omega
  case g4 => simp; omega
  case g5 => exact fun q hq => HEA.out.inv.none_of_ge (by simp at hq ⊢; omega)
  intro v' w5 ho5 hg5 _
  obtain ⟨a5, c5, e5, _⟩ := ho5.open
  subst e5
  obtain ⟨v', hv'⟩ : ∃ v, v = Value.slice a5 (bs.length + 1) c5 := ⟨_, rfl⟩
  rw [← hv'] at ho5
  have hb5 : w5.heap[b]? = some (.cells #[.pointer (some ⟨b, 0, none⟩), v] 118 (0, 0)) := by
    rw [hg5.block b (by simp; omega) (fun e => by have := (HAP.out.lt b e.symm).1; omega), Below.heap_alloc _ _ _ hzb]
    exact HBK.out
  have k5 : w5.cell? ⟨b, 1, none⟩ = some v := cells_at hb5 1
  have z5 : w5.frozen? ⟨b, 1, none⟩ = false := by simp [World.frozen?, hb5]
  have HE5 := Lib.hid ((HEA.out.appV HAP.out (by omega) hg5).setCell (p := ⟨b, 1, none⟩) (by show _ ≤ b; omega) h3 v')
  have HW5 : Hid (BuildAt R B (w5.setCell ⟨b, 1, none⟩ v') b (.pointer (some ⟨b, 0, none⟩)) (bs ++ [c])) := Lib.hid ⟨v', h2, h3, set21 hb5, by
    have h := ho5.setCell (a := ⟨b, 1, none⟩) (fun e => by have := (ho5.lt _ e).1; simp at this; omega) v'
    simpa using h⟩
  rw [hv'] at HE5 HW5
  clear hb5 ho5 hg5
  go_wp2_with fail
  go_ret
  exact ⟨rfl, HE5.out, HW5.out⟩

def letter (k : Int) : UInt8 := if k = 0 then 40 else if k = 1 then 41 else if k = 2 then 91 else 93
def textL (bs : List Int) : List UInt8 := bs.map letter
def bytesI (l : List UInt8) : List Int := l.map fun c => ((c.toNat : Nat) : Int)
theorem byteCells_eq (l : List UInt8) : Lib.byteCells l = (bytesI l).map (Value.int .u8) := by
  unfold Lib.byteCells bytesI
  rw [List.map_map]
  rfl

theorem Ev.below_at {R : Reg} {w0 w w' : World} (hI0 : Inv R w0) (he : Ev R w0 R w) (hb : Below w0.heap.size w w') : Ev R w0 R w' :=
  ⟨hb.os.trans he.os, hb.tape.trans he.tape, hb.output.trans he.output, Nat.le_trans he.size hb.size, fun k hk hr => (hb.block k hk).trans (he.block k hk hr), fun _ _ h => h, fun _ _ h => h,
    fun k r hr => (he.inv k r hr).mono (fun _ _ h => h) (hb.block k (hI0 k r hr).lt)⟩

set_option maxHeartbeats 2000000 in
set_option maxRecDepth 100000 in
theorem text_any (R : Reg) (w : World) (hI : Inv R w) (B : Nat) (v : Value) (bs : List Int) (hw : WordAt R B w v bs) (hk : ∀ i, i < bs.length → 0 ≤ nth bs i ∧ nth bs i ≤ 3) (hn : bs.length ≤ 1000000) :
    Calls Try.prog 25 #[v] w (RetE R w (.string ⟨(textL bs).toArray⟩)) := by
  have HLn := Lib.hid (fun R' w' (he : Ev R w R' w') => wlen_any R' B w' v bs (hw.ev he))
  obtain ⟨b, sl, T, rfl, hBb, hRb, hblk, hown⟩ := hw
  obtain ⟨a, cap, e, _⟩ := hown.open
  subst e
  obtain ⟨n, hnn⟩ : ∃ n, bs.length = n := ⟨_, rfl⟩
  rw [hnn] at hown hk hn hblk
  have HC : Hid (∀ w', Ev R w R w' → w'.cell? ⟨b, 0, none⟩ = some (.slice a n cap)) := Lib.hid fun w' he => by
    have := he.block b (lt_of_block hblk) hRb
    rw [hblk] at this
    exact cells_at this 0
  have HO := Lib.hid hown
  have HK := Lib.hid hk
  have HI := Lib.hid hI
  have HN := Lib.hid hnn
  rw [hnn] at HLn
  have hev0 := (Ev.refl hI).alloc (.cells #[.pointer none, .slice none 0 0] 118)
  have hbd : BuildAt R w.heap.size (w.alloc (.cells #[.pointer none, .slice none 0 0] 118)) w.heap.size (.pointer none) [] :=
    ⟨.slice none 0 0, Nat.le_refl _, hI.none_of_ge (Nat.le_refl _), heap_alloc_new w _, OwnV.nil _ _ _ _ _⟩
  have HE0 := Lib.hid hev0
  have HB0 := Lib.hid hbd
  clear hown hk hI hnn hev0 hbd hblk
  go_enter Try.func25, Try.ntmps25
  go_wp2_with fail
  refine (HLn.out _ _ HE0.out).mono ?_
  rintro e w1 ⟨rfl, rfl⟩
  obtain ⟨B0, hB0⟩ : ∃ B0, w.heap.size = B0 := ⟨_, rfl⟩
  rw [hB0] at HB0 ⊢
  have HB0e := Lib.hid hB0
  clear hB0
  obtain ⟨w1, hw1⟩ : ∃ w1, w.alloc (.cells #[.pointer none, .slice none 0 0] 118) = w1 := ⟨_, rfl⟩
  rw [hw1] at HE0 HB0 ⊢
  clear hw1
  go_wp2_with fail
  go_loopg [7] n (fun g v7 wr => ∃ (i : Nat) (p : Value), i ≤ n ∧ n - i ≤ g ∧ v7 = .int .i64 (i : Int) ∧ Ev R w R wr ∧ (p = .pointer none ∨ p = .pointer (some ⟨B0, 0, none⟩)) ∧ BuildAt R B0 wr B0 p (bytesI (textL (bs.take i))))
  case atStart => exact ⟨0, _, by omega, by omega, rfl, HE0.out, Or.inl rfl, by simpa [bytesI, textL] using HB0.out⟩
  case round =>
    obtain ⟨i, p, hi, hg, rfl, he, hp, hb⟩ := hrel
    have HE := Lib.hid he
    have HB := Lib.hid hb
    have HP := Lib.hid hp
    clear hb hp
    by_cases hil : i < n
    · have hc0 := HC.out _ he
      have hkk := HK.out i hil
      obtain ⟨gb, rfl, _, _, hc1, _⟩ := (HO.out.ev he).headAt (i := i) (by rw [List.length_map, HN.out]; exact hil)
      rw [List.getElem?_map, List.getElem?_eq_getElem (by rw [HN.out]; exact hil)] at hc1
      have hx : nth bs i = bs[i]'(by rw [HN.out]; exact hil) := by simp [nth, HN.out, hil]
      rw [← hx] at hc1
      simp only [Option.map_some] at hc1
      have htk : bytesI (textL (bs.take (i + 1))) = bytesI (textL (bs.take i)) ++ [(((letter (nth bs i)).toNat : Nat) : Int)] := by
        rw [List.take_add_one, List.getElem?_eq_getElem (by rw [HN.out]; exact hil), ← hx]
        simp [bytesI, textL]
      have hlen : (bytesI (textL (bs.take i))).length ≤ 1000000 := by simp [bytesI, textL]; omega
      obtain ⟨k, hkx⟩ : ∃ k, nth bs i = k := ⟨_, rfl⟩
      rw [hkx] at hc1 htk hkk
      have HT := Lib.hid htk
      have HLe := Lib.hid hlen
      clear hx hkx htk hlen he
      have hk4 : k = 0 ∨ k = 1 ∨ k = 2 ∨ k = 3 := by omega
      clear hkk
      rcases hk4 with rfl | rfl | rfl | rfl
      · have hix : ∀ w, (Instr.index 9 (.string ⟨#[40, 41, 91, 93]⟩) (.int .u8 0)).run Try.prog w = .ok (.int .u8 40) w := fun _ => by kernel_rfl
        go_wp2_with fail
        refine (wbyte_any R w R wr HE.out B0 (by rw [HB0e.out]; exact Nat.le_refl _) B0 p HP.out _ HB.out (by have := HLe.out; omega) 40).mono ?_
        rintro e w5 ⟨rfl, he5, hb5⟩
        have HE5 := Lib.hid he5
        have HB5 := Lib.hid hb5
        clear he5 hb5
        go_wp2_with fail
        go_roundg (n - (i + 1))
        case measure => omega
        case rel => exact ⟨i + 1, _, by omega, by omega, by go_num, HE5.out, Or.inr rfl, by rw [HT.out]; exact HB5.out⟩
      · have hix : ∀ w, (Instr.index 9 (.string ⟨#[40, 41, 91, 93]⟩) (.int .u8 1)).run Try.prog w = .ok (.int .u8 41) w := fun _ => by kernel_rfl
        go_wp2_with fail
        refine (wbyte_any R w R wr HE.out B0 (by rw [HB0e.out]; exact Nat.le_refl _) B0 p HP.out _ HB.out (by have := HLe.out; omega) 41).mono ?_
        rintro e w5 ⟨rfl, he5, hb5⟩
        have HE5 := Lib.hid he5
        have HB5 := Lib.hid hb5
        clear he5 hb5
        go_wp2_with fail
        go_roundg (n - (i + 1))
        case measure => omega
        case rel => exact ⟨i + 1, _, by omega, by omega, by go_num, HE5.out, Or.inr rfl, by rw [HT.out]; exact HB5.out⟩
      · have hix : ∀ w, (Instr.index 9 (.string ⟨#[40, 41, 91, 93]⟩) (.int .u8 2)).run Try.prog w = .ok (.int .u8 91) w := fun _ => by kernel_rfl
        go_wp2_with fail
        refine (wbyte_any R w R wr HE.out B0 (by rw [HB0e.out]; exact Nat.le_refl _) B0 p HP.out _ HB.out (by have := HLe.out; omega) 91).mono ?_
        rintro e w5 ⟨rfl, he5, hb5⟩
        have HE5 := Lib.hid he5
        have HB5 := Lib.hid hb5
        clear he5 hb5
        go_wp2_with fail
        go_roundg (n - (i + 1))
        case measure => omega
        case rel => exact ⟨i + 1, _, by omega, by omega, by go_num, HE5.out, Or.inr rfl, by rw [HT.out]; exact HB5.out⟩
      · have hix : ∀ w, (Instr.index 9 (.string ⟨#[40, 41, 91, 93]⟩) (.int .u8 3)).run Try.prog w = .ok (.int .u8 93) w := fun _ => by kernel_rfl
        go_wp2_with fail
        refine (wbyte_any R w R wr HE.out B0 (by rw [HB0e.out]; exact Nat.le_refl _) B0 p HP.out _ HB.out (by have := HLe.out; omega) 93).mono ?_
        rintro e w5 ⟨rfl, he5, hb5⟩
        have HE5 := Lib.hid he5
        have HB5 := Lib.hid hb5
        clear he5 hb5
        go_wp2_with fail
        go_roundg (n - (i + 1))
        case measure => omega
        case rel => exact ⟨i + 1, _, by omega, by omega, by go_num, HE5.out, Or.inr rfl, by rw [HT.out]; exact HB5.out⟩
    · obtain rfl : i = n := by omega
      have e : bs.take i = bs := by rw [← HN.out]; exact List.take_length
      have hb := HB.out
      rw [e] at hb
      have hbd : Lib.IsBuilder 118 5 B0 B0 (Lib.byteCells (textL bs)) wr := by
        obtain ⟨v, q1, q2, q3, q4⟩ := hb
        have q5 : Lib.BuilderAt 118 5 B0 B0 p (Lib.byteCells (textL bs)) wr := by
          refine ⟨Nat.le_refl _, v, q3, ?_, fun e => by have := (q4.lt _ e).1; omega⟩
          rw [byteCells_eq, List.length_map]
          exact (q4.mono (Nat.le_succ _)).1
        rcases HP.out with rfl | rfl
        · exact Or.inl q5
        · exact Or.inr q5
      have HS := Lib.hid (Builder_String_any B0 B0 _ wr hbd (by have := HE.out.size; have := HB0e.out; omega))
      clear hb hbd he
      go_wp2_with fail
      refine HS.out.mono ?_
      rintro e w5 ⟨rfl, hbl⟩
      have HE5 := Lib.hid (HE.out.below_at HI.out (by rw [HB0e.out]; exact hbl))
      clear hbl
      go_wp2_with fail
      go_ret
      exact ⟨rfl, HE5.out⟩

end Go.Proofs.Ytnbecpeiodcohaa
