/- strings.Builder: String (laid by the kit's lay-shelf and lay-plain, its numbers by name), WriteByte; mixed.Word's text. Conditions: what is read lies in memory. parquetrylaw09: made, awake. Conditions: the bytes lie in memory. parquetrylaw09.WalkPlane, the walk: it answers true. Conditions: the bytes lie in memory. -/
import Derived.Shelf.Strings.Builder1
import Derived.Test.YtnbecpeiodcohaaZWalkPlane20
import Derived.Test.YtnbecpeiodcohaaZWalkPlane14
import Derived.Test.YtnbecpeiodcohaaZWalkPlane19
import Derived.Test.YtnbecpeiodcohaaZWalkPlane11
import Derived.Test.YtnbecpeiodcohaaZWalkPlane22
import Derived.BigQuiet
namespace Go.Proofs.Ytnbecpeiodcohaa
open Go.RowKit Go.Shelf
set_option linter.unusedVariables false

def lays169_ren : Go.Shelf.Ren := ⟨fun | 169 => 85 | n => n, fun | 70 => 116 | 9 => 9 | 0 => 0 | 72 => 118 | 37 => 22 | 127 => 149 | 3 => 3 | 5 => 5 | n => n, fun | n => n⟩
theorem lays169 : Go.Proofs.Lays.n169 Try.prog lays169_ren := {
  mixed := by kernel_rfl
  f169 := Try.func85.trans (congrArg some (by kernel_rfl))
  t0 := Try.underlying0
  a0 := Try.isAgg0
  z0 := Try.sizeOf0
  v0 := Try.zeroValue0
  t3 := Try.underlying3
  a3 := Try.isAgg3
  z3 := Try.sizeOf3
  v3 := Try.zeroValue3
  t9 := Try.underlying9
  a9 := Try.isAgg9
  z9 := Try.sizeOf9
  v9 := Try.zeroValue9
  t37 := Try.underlying22
  a37 := Try.isAgg22
  z37 := Try.sizeOf22
  v37 := Try.zeroValue22
  t70 := Try.underlying116
  a70 := Try.isAgg116
  z70 := Try.sizeOf116
  v70 := Try.zeroValue116
  t72 := Try.underlying118
  a72 := Try.isAgg118
  z72 := Try.sizeOf118
  v72 := Try.zeroValue118
  t127 := Try.underlying149
  a127 := Try.isAgg149
  z127 := Try.sizeOf149
  v127 := Try.zeroValue149 }
theorem Builder_Extra_169 : Builder.Extra Try.prog lays169_ren := {
  sizeBuilder := by kernel_rfl
  liesBuilder := by kernel_rfl
  t5 := Try.underlying5
  a5 := Try.isAgg5
  z5 := Try.sizeOf5
  v5 := Try.zeroValue5
  infoByte := by kernel_rfl
  cellsByte := by kernel_rfl
  sizeByte := by kernel_rfl
  neB5 := by decide }
open Go.RowKit in
/-- (*strings.Builder).String: "String returns the accumulated string.": WHATEVER THE BUILDER HOLDS. (LAID: no walk: one application.) -/
theorem Builder_String_any (B b : Nat) (l : List UInt8) (w : World) (h : Lib.IsBuilder 118 5 B b (Lib.byteCells l) w) (hBw : B ≤ w.heap.size) :
    Calls Try.prog 85 #[.pointer (some ⟨b, 0, none⟩)] w fun e w' => e = .returned (.string ⟨l.toArray⟩) ∧ Below B w w' := Any.Builder_String_any lays169 Builder_Extra_169 B b l w h hBw

/-- a Builder of the call's own, in a registry -/
def BuildAt (R : Reg) (B : Nat) (w : World) (b : Nat) (p : Value) (bs : List Int) : Prop :=
  ∃ v : Value, B ≤ b ∧ R b = none ∧ w.heap[b]? = some (.cells #[p, v] 118 (0, 0)) ∧ OwnV R (b + 1) 5 1 w v bs.length (bs.map (Value.int .u8))

theorem sizeBld : (Try.prog.info? 118).map (fun j => j.size) = some 2 := by kernel_rfl

theorem set20 {w : World} {b : Nat} {x y z : Value} {T : TypeId} (h : w.heap[b]? = some (.cells #[x, y] T (0, 0))) : (w.setCell ⟨b, 0, none⟩ z).heap[b]? = some (.cells #[z, y] T (0, 0)) := heap_setCell_same w b 0 _ T z h
theorem set21 {w : World} {b : Nat} {x y z : Value} {T : TypeId} (h : w.heap[b]? = some (.cells #[x, y] T (0, 0))) : (w.setCell ⟨b, 1, none⟩ z).heap[b]? = some (.cells #[x, z] T (0, 0)) := heap_setCell_same w b 1 _ T z h

set_option maxHeartbeats 1000000 in
set_option maxRecDepth 100000 in
theorem ccheck_used (b : Nat) (w : World) (h0 : w.cell? ⟨b, 0, none⟩ = some (.pointer (some ⟨b, 0, none⟩))) :
    Calls Try.prog 115 #[.pointer (some ⟨b, 0, none⟩)] w fun e w' => e = .returned (.tuple #[]) ∧ w' = w := by
  obtain ⟨j, hj, _⟩ := Option.map_eq_some_iff.1 sizeBld
  go_enter Try.func115, Try.ntmps115
  go_wp2
  rw [Lib.run_neq_ptr_same w _ Try.underlying116 hj]
  go_wp2
  go_end0
  exact ⟨rfl, rfl⟩

set_option maxHeartbeats 1000000 in
set_option maxRecDepth 100000 in
theorem ccheck_fresh (b : Nat) (w : World) (h0 : w.cell? ⟨b, 0, none⟩ = some (.pointer none)) (hsh : w.shape? b = some (118, 2)) (hfz : w.frozen? ⟨b, 0, none⟩ = false) :
    Calls Try.prog 115 #[.pointer (some ⟨b, 0, none⟩)] w fun e w' => e = .returned (.tuple #[]) ∧ w' = w.setCell ⟨b, 0, none⟩ (.pointer (some ⟨b, 0, none⟩)) := by
  obtain ⟨j, hj, hjs⟩ := Option.map_eq_some_iff.1 sizeBld
  go_enter Try.func115, Try.ntmps115
  go_wp2
  rw [Lib.run_to_unsafe w ⟨b, 0, none⟩ Try.underlying116 Try.underlying158 hj (by rw [hjs]; decide) hsh (Nat.zero_lt_succ 1)]
  simp only [Result.andThen]
  rw [Oper.upon_value]
  go_wp2
  rw [run_callFunc_extern Try.func129 (by kernel_rfl) (by kernel_rfl) (by kernel_rfl) (e := Extern.AbiNoEscape.same) (by kernel_rfl)]
  rw [Lib.run_noEscape]
  simp only [Result.andThen]
  rw [Oper.upon_value]
  go_wp2
  rw [Lib.run_from_unsafe w ⟨b, 0, none⟩ Try.underlying158 Try.underlying116 hj hsh (by kernel_rfl)]
  simp only [Result.andThen]
  rw [Oper.upon_value]
  go_wp2
  go_end0
  exact ⟨rfl, rfl⟩

theorem BuildAt.ev {R R1 : Reg} {B : Nat} {w w1 : World} {b : Nat} {p : Value} {bs : List Int} (h : BuildAt R B w b p bs) (he : Ev R w R1 w1) : BuildAt R1 B w1 b p bs := by
  obtain ⟨v, h2, h3, h4, h5⟩ := h
  have hl := lt_of_block h4
  exact ⟨v, h2, he.free b hl h3, by rw [he.block b hl h3]; exact h4, h5.ev he⟩

theorem ccheck_any (R0 : Reg) (w0 : World) (R : Reg) (w : World) (he : Ev R0 w0 R w) (B : Nat) (hB : w0.heap.size ≤ B) (b : Nat) (p : Value) (hp : p = .pointer none ∨ p = .pointer (some ⟨b, 0, none⟩)) (bs : List Int) (hb : BuildAt R B w b p bs) :
    Calls Try.prog 115 #[.pointer (some ⟨b, 0, none⟩)] w fun e w' => e = .returned (.tuple #[]) ∧ Ev R0 w0 R w' ∧ BuildAt R B w' b (.pointer (some ⟨b, 0, none⟩)) bs := by
  have hb0 := hb
  obtain ⟨v, h2, h3, h4, h5⟩ := hb
  rcases hp with rfl | rfl
  · refine (ccheck_fresh b w (by simp [World.cell?, h4]) (by simp [World.shape?, h4]) (by simp [World.frozen?, h4])).mono ?_
    rintro e w' ⟨rfl, rfl⟩
    exact ⟨rfl, he.setCell (p := ⟨b, 0, none⟩) (by show _ ≤ b; omega) h3 _, v, h2, h3, set20 h4, h5.setCell (fun e => by have := (h5.lt _ e).1; simp at this; omega) _⟩
  · refine (ccheck_used b w (by simp [World.cell?, h4])).mono ?_
    rintro e w' ⟨rfl, rfl⟩
    exact ⟨rfl, he, hb0⟩

set_option maxHeartbeats 1000000 in
set_option maxRecDepth 100000 in
theorem wbyte_any (R0 : Reg) (w0 : World) (R : Reg) (w : World) (he : Ev R0 w0 R w) (B : Nat) (hB : w0.heap.size ≤ B) (b : Nat) (p : Value) (hp : p = .pointer none ∨ p = .pointer (some ⟨b, 0, none⟩)) (bs : List Int) (hb : BuildAt R B w b p bs) (hn : bs.length ≤ 4194304) (c : Int) :
    Calls Try.prog 84 #[.pointer (some ⟨b, 0, none⟩), .int .u8 c] w fun e w' => e = .returned .nilIface ∧ Ev R0 w0 R w' ∧ BuildAt R B w' b (.pointer (some ⟨b, 0, none⟩)) (bs ++ [c]) := by
  have HC := Lib.hid (ccheck_any R0 w0 R w he B hB b p hp bs hb)
  clear he hb hp
  go_enter Try.func84, Try.ntmps84
  go_wp2_with fail
  refine HC.out.mono ?_
  rintro e w1 ⟨rfl, he, v, h2, h3, h4, h5⟩
  have k1 : w1.cell? ⟨b, 1, none⟩ = some v := cells_at h4 1
  have hzb := lt_of_block h4
  have HAP := Lib.hid (h5.alloc (.cells #[.int .u8 c] 5))
  have HEA := Lib.hid (he.alloc (.cells #[.int .u8 c] 5))
  have HBK := Lib.hid h4
  clear he h4 h5 HC
  go_wp2_with (at_builtin; refine wpList_app_row 22 5 1 1 _ Try.underlying22 uint8_info rfl (by omega) (by omega) (R := R) (B := b + 1) rfl _ _ rfl HAP.out rfl ⟨w1.heap.size, 0, none⟩ 1 1 [.int .u8 c] rfl rfl ?g1 ?g2 ?g3 ?g4 ?g5 ?_)
  case g1 => exact cells_new _ _ _
  case g2 =>
    intro u hu
    simp only [List.mem_cons, List.not_mem_nil, or_false] at hu
    subst hu; rfl
  case g3 => omega
  case g4 => simp; omega
  case g5 => exact fun q hq => HEA.out.inv.none_of_ge (by simp at hq ⊢; omega)
  intro v' w5 ho5 hg5 _
  obtain ⟨a5, c5, e5, _⟩ := ho5.open
  subst e5
  obtain ⟨v', hv'⟩ : ∃ v, v = Value.slice a5 (bs.length + 1) c5 := ⟨_, rfl⟩
  rw [← hv'] at ho5
  have hb5 : w5.heap[b]? = some (.cells #[.pointer (some ⟨b, 0, none⟩), v] 118 (0, 0)) := by
    rw [hg5.block b (by simp; omega) (fun e => by have := (HAP.out.lt b e.symm).1; omega), Below.heap_alloc _ _ _ hzb]
    exact HBK.out
  have k5 : w5.cell? ⟨b, 1, none⟩ = some v := cells_at hb5 1
  have z5 : w5.frozen? ⟨b, 1, none⟩ = false := by simp [World.frozen?, hb5]
  have HE5 := Lib.hid ((HEA.out.appV HAP.out (by omega) hg5).setCell (p := ⟨b, 1, none⟩) (by show _ ≤ b; omega) h3 v')
  have HW5 : Hid (BuildAt R B (w5.setCell ⟨b, 1, none⟩ v') b (.pointer (some ⟨b, 0, none⟩)) (bs ++ [c])) := Lib.hid ⟨v', h2, h3, set21 hb5, by
    have h := ho5.setCell (a := ⟨b, 1, none⟩) (fun e => by have := (ho5.lt _ e).1; simp at this; omega) v'
    simpa using h⟩
  rw [hv'] at HE5 HW5
  clear hb5 ho5 hg5
  go_wp2_with fail
  go_ret
  exact ⟨rfl, HE5.out, HW5.out⟩

def letter (k : Int) : UInt8 := if k = 0 then 40 else if k = 1 then 41 else if k = 2 then 91 else 93
def textL (bs : List Int) : List UInt8 := bs.map letter
def bytesI (l : List UInt8) : List Int := l.map fun c => ((c.toNat : Nat) : Int)
theorem byteCells_eq (l : List UInt8) : Lib.byteCells l = (bytesI l).map (Value.int .u8) := by
  unfold Lib.byteCells bytesI
  rw [List.map_map]
  rfl

theorem Ev.below_at {R : Reg} {w0 w w' : World} (hI0 : Inv R w0) (he : Ev R w0 R w) (hb : Below w0.heap.size w w') : Ev R w0 R w' :=
  ⟨hb.os.trans he.os, hb.tape.trans he.tape, hb.output.trans he.output, Nat.le_trans he.size hb.size, fun k hk hr => (hb.block k hk).trans (he.block k hk hr), fun _ _ h => h, fun _ _ h => h,
    fun k r hr => (he.inv k r hr).mono (fun _ _ h => h) (hb.block k (hI0 k r hr).lt)⟩

set_option maxHeartbeats 2000000 in
set_option maxRecDepth 100000 in
theorem text_any (R : Reg) (w : World) (hI : Inv R w) (B : Nat) (v : Value) (bs : List Int) (hw : WordAt R B w v bs) (hk : ∀ i, i < bs.length → 0 ≤ nth bs i ∧ nth bs i ≤ 3) (hn : bs.length ≤ 1000000) :
    Calls Try.prog 25 #[v] w (RetE R w (.string ⟨(textL bs).toArray⟩)) := by
  have HLn := Lib.hid (fun R' w' (he : Ev R w R' w') => wlen_any R' B w' v bs (hw.ev he))
  obtain ⟨b, sl, T, rfl, hBb, hRb, hblk, hown⟩ := hw
  obtain ⟨a, cap, e, _⟩ := hown.open
  subst e
  obtain ⟨n, hnn⟩ : ∃ n, bs.length = n := ⟨_, rfl⟩
  rw [hnn] at hown hk hn hblk
  have HC : Hid (∀ w', Ev R w R w' → w'.cell? ⟨b, 0, none⟩ = some (.slice a n cap)) := Lib.hid fun w' he => by
    have := he.block b (lt_of_block hblk) hRb
    rw [hblk] at this
    exact cells_at this 0
  have HO := Lib.hid hown
  have HK := Lib.hid hk
  have HI := Lib.hid hI
  have HN := Lib.hid hnn
  rw [hnn] at HLn
  have hev0 := (Ev.refl hI).alloc (.cells #[.pointer none, .slice none 0 0] 118)
  have hbd : BuildAt R w.heap.size (w.alloc (.cells #[.pointer none, .slice none 0 0] 118)) w.heap.size (.pointer none) [] :=
    ⟨.slice none 0 0, Nat.le_refl _, hI.none_of_ge (Nat.le_refl _), heap_alloc_new w _, OwnV.nil _ _ _ _ _⟩
  have HE0 := Lib.hid hev0
  have HB0 := Lib.hid hbd
  clear hown hk hI hnn hev0 hbd hblk
  go_enter Try.func25, Try.ntmps25
  go_wp2_with fail
  refine (HLn.out _ _ HE0.out).mono ?_
  rintro e w1 ⟨rfl, rfl⟩
  obtain ⟨B0, hB0⟩ : ∃ B0, w.heap.size = B0 := ⟨_, rfl⟩
  rw [hB0] at HB0 ⊢
  have HB0e := Lib.hid hB0
  clear hB0
  obtain ⟨w1, hw1⟩ : ∃ w1, w.alloc (.cells #[.pointer none, .slice none 0 0] 118) = w1 := ⟨_, rfl⟩
  rw [hw1] at HE0 HB0 ⊢
  clear hw1
  go_wp2_with fail
  go_loopg [7] n (fun g v7 wr => ∃ (i : Nat) (p : Value), i ≤ n ∧ n - i ≤ g ∧ v7 = .int .i64 (i : Int) ∧ Ev R w R wr ∧ (p = .pointer none ∨ p = .pointer (some ⟨B0, 0, none⟩)) ∧ BuildAt R B0 wr B0 p (bytesI (textL (bs.take i))))
  case atStart => exact ⟨0, _, by omega, by omega, rfl, HE0.out, Or.inl rfl, by simpa [bytesI, textL] using HB0.out⟩
  case round =>
    obtain ⟨i, p, hi, hg, rfl, he, hp, hb⟩ := hrel
    have HE := Lib.hid he
    have HB := Lib.hid hb
    have HP := Lib.hid hp
    clear hb hp
    by_cases hil : i < n
    · have hc0 := HC.out _ he
      have hkk := HK.out i hil
      obtain ⟨gb, rfl, _, _, hc1, _⟩ := (HO.out.ev he).headAt (i := i) (by rw [List.length_map, HN.out]; exact hil)
      rw [List.getElem?_map, List.getElem?_eq_getElem (by rw [HN.out]; exact hil)] at hc1
      have hx : nth bs i = bs[i]'(by rw [HN.out]; exact hil) := by simp [nth, HN.out, hil]
      rw [← hx] at hc1
      simp only [Option.map_some] at hc1
      have htk : bytesI (textL (bs.take (i + 1))) = bytesI (textL (bs.take i)) ++ [(((letter (nth bs i)).toNat : Nat) : Int)] := by
        rw [List.take_add_one, List.getElem?_eq_getElem (by rw [HN.out]; exact hil), ← hx]
        simp [bytesI, textL]
      have hlen : (bytesI (textL (bs.take i))).length ≤ 1000000 := by simp [bytesI, textL]; omega
      obtain ⟨k, hkx⟩ : ∃ k, nth bs i = k := ⟨_, rfl⟩
      rw [hkx] at hc1 htk hkk
      have HT := Lib.hid htk
      have HLe := Lib.hid hlen
      clear hx hkx htk hlen he
      have hk4 : k = 0 ∨ k = 1 ∨ k = 2 ∨ k = 3 := by omega
      clear hkk
      rcases hk4 with rfl | rfl | rfl | rfl
      · have hix : ∀ w, (Instr.index 9 (.string ⟨#[40, 41, 91, 93]⟩) (.int .u8 0)).run Try.prog w = .ok (.int .u8 40) w := fun _ => by kernel_rfl
        go_wp2_with fail
        refine (wbyte_any R w R wr HE.out B0 (by rw [HB0e.out]; exact Nat.le_refl _) B0 p HP.out _ HB.out (by have := HLe.out; omega) 40).mono ?_
        rintro e w5 ⟨rfl, he5, hb5⟩
        have HE5 := Lib.hid he5
        have HB5 := Lib.hid hb5
        clear he5 hb5
        go_wp2_with fail
        go_roundg (n - (i + 1))
        case measure => omega
        case rel => exact ⟨i + 1, _, by omega, by omega, by go_num, HE5.out, Or.inr rfl, by rw [HT.out]; exact HB5.out⟩
      · have hix : ∀ w, (Instr.index 9 (.string ⟨#[40, 41, 91, 93]⟩) (.int .u8 1)).run Try.prog w = .ok (.int .u8 41) w := fun _ => by kernel_rfl
        go_wp2_with fail
        refine (wbyte_any R w R wr HE.out B0 (by rw [HB0e.out]; exact Nat.le_refl _) B0 p HP.out _ HB.out (by have := HLe.out; omega) 41).mono ?_
        rintro e w5 ⟨rfl, he5, hb5⟩
        have HE5 := Lib.hid he5
        have HB5 := Lib.hid hb5
        clear he5 hb5
        go_wp2_with fail
        go_roundg (n - (i + 1))
        case measure => omega
        case rel => exact ⟨i + 1, _, by omega, by omega, by go_num, HE5.out, Or.inr rfl, by rw [HT.out]; exact HB5.out⟩
      · have hix : ∀ w, (Instr.index 9 (.string ⟨#[40, 41, 91, 93]⟩) (.int .u8 2)).run Try.prog w = .ok (.int .u8 91) w := fun _ => by kernel_rfl
        go_wp2_with fail
        refine (wbyte_any R w R wr HE.out B0 (by rw [HB0e.out]; exact Nat.le_refl _) B0 p HP.out _ HB.out (by have := HLe.out; omega) 91).mono ?_
        rintro e w5 ⟨rfl, he5, hb5⟩
        have HE5 := Lib.hid he5
        have HB5 := Lib.hid hb5
        clear he5 hb5
        go_wp2_with fail
        go_roundg (n - (i + 1))
        case measure => omega
        case rel => exact ⟨i + 1, _, by omega, by omega, by go_num, HE5.out, Or.inr rfl, by rw [HT.out]; exact HB5.out⟩
      · have hix : ∀ w, (Instr.index 9 (.string ⟨#[40, 41, 91, 93]⟩) (.int .u8 3)).run Try.prog w = .ok (.int .u8 93) w := fun _ => by kernel_rfl
        go_wp2_with fail
        refine (wbyte_any R w R wr HE.out B0 (by rw [HB0e.out]; exact Nat.le_refl _) B0 p HP.out _ HB.out (by have := HLe.out; omega) 93).mono ?_
        rintro e w5 ⟨rfl, he5, hb5⟩
        have HE5 := Lib.hid he5
        have HB5 := Lib.hid hb5
        clear he5 hb5
        go_wp2_with fail
        go_roundg (n - (i + 1))
        case measure => omega
        case rel => exact ⟨i + 1, _, by omega, by omega, by go_num, HE5.out, Or.inr rfl, by rw [HT.out]; exact HB5.out⟩
    · obtain rfl : i = n := by omega
      have e : bs.take i = bs := by rw [← HN.out]; exact List.take_length
      have hb := HB.out
      rw [e] at hb
      have hbd : Lib.IsBuilder 118 5 B0 B0 (Lib.byteCells (textL bs)) wr := by
        obtain ⟨v, q1, q2, q3, q4⟩ := hb
        have q5 : Lib.BuilderAt 118 5 B0 B0 p (Lib.byteCells (textL bs)) wr := by
          refine ⟨Nat.le_refl _, v, q3, ?_, fun e => by have := (q4.lt _ e).1; omega⟩
          rw [byteCells_eq, List.length_map]
          exact (q4.mono (Nat.le_succ _)).1
        rcases HP.out with rfl | rfl
        · exact Or.inl q5
        · exact Or.inr q5
      have HS := Lib.hid (Builder_String_any B0 B0 _ wr hbd (by have := HE.out.size; have := HB0e.out; omega))
      clear hb hbd he
      go_wp2_with fail
      refine HS.out.mono ?_
      rintro e w5 ⟨rfl, hbl⟩
      have HE5 := Lib.hid (HE.out.below_at HI.out (by rw [HB0e.out]; exact hbl))
      clear hbl
      go_wp2_with fail
      go_ret
      exact ⟨rfl, HE5.out⟩

end Go.Proofs.Ytnbecpeiodcohaa

namespace Go.Proofs.Ytnbecpeiodcohaa
open Go.RowKit
set_option linter.unusedVariables false

set_option maxRecDepth 100000 in
set_option maxHeartbeats 2000000 in
theorem made9_any (R : Reg) (w : World) (hI : Inv R w) (n : Nat) (hn : n ≤ 255) (v : Value) (bs : List Nat) (hv : FreeB R w v bs) :
    Calls Try.prog 16 #[.int .u8 (n : Int), v] w (MadeMap R w (mixL (2 * (n % 14)) bs) (anyRoot (n % 14) 0) 0) := by
  have he0 : Ev R w R (w.alloc (.cells #[.slice none 0 0, .int .i64 0, .int .i64 0] 27)) := (Ev.refl hI).alloc _
  have hm := rany_any R _ he0.inv (n % 14) (by omega) v bs (hv.ev he0) 0 (by omega)
  have hok := made_ok (n % 14) 0 bs 0 (by omega) (by omega)
  have hS := mixL_perm (2 * (n % 14)) bs
  rw [show ((n % 14 : Nat) : Int) = (n : Int) % 14 from by omega, show ((0 : Nat) : Int) = 0 from rfl] at hm
  rw [show ((0 : Nat) : Int) = 0 from rfl] at hok
  obtain ⟨S, hSe⟩ : ∃ S, mixL (2 * (n % 14)) bs = S := ⟨_, rfl⟩
  obtain ⟨r, hre⟩ : ∃ r, anyRoot (n % 14) 0 = r := ⟨_, rfl⟩
  rw [hSe, hre] at hm hok ⊢
  rw [hSe] at hS
  have HM := Lib.hid hm
  have HOK := Lib.hid hok
  have HS := Lib.hid hS
  have HE0 := Lib.hid he0
  have HI := Lib.hid hI
  obtain ⟨a0, c0, rfl, _⟩ := hv
  clear hm he0 hI hSe hre hok hS
  go_enter Try.func16, Try.ntmps16
  go_wp2_with fail
  refine HM.out.mono ?_
  rintro e w1 ⟨a1, c1, rfl, he1, ho1⟩
  unfold refV
  have hz := he1.size
  simp only [World.size_alloc] at hz
  have hc0 : w1.heap[w.heap.size]? = some (.cells #[.slice none 0 0, .int .i64 0, .int .i64 0] 27 (0, 0)) := by
    rw [he1.block _ (by simp) (HI.out.none_of_ge (Nat.le_refl _))]
    exact heap_alloc_new w _
  have he2 := (HE0.out.trans he1).alloc (.cells #[.slice a1 S.length c1, .int .i64 r, .int .i64 0] 27)
  have ho2 := ho1.alloc (.cells #[.slice a1 S.length c1, .int .i64 r, .int .i64 0] 27)
  have hnew := new_yes R _ he2.inv (.slice a1 S.length c1) S ho2.free r 0 HS.out HOK.out
  have HN := Lib.hid hnew
  have HE1 := Lib.hid (HE0.out.trans he1)
  have HE2 := Lib.hid he2
  have HO2 := Lib.hid ho2
  have HC0 := Lib.hid hc0
  clear he1 ho1 he2 ho2 hnew hc0
  go_wp2_with fail
  refine HN.out.mono ?_
  rintro e w2 ⟨p, R2, rfl, he3, hm3⟩
  have hsz1 : w1.heap.size + 1 ≤ w2.heap.size := by have := he3.size; simpa using this
  have hb1 : w2.heap[w1.heap.size]? = some (.cells #[.slice a1 S.length c1, .int .i64 r, .int .i64 0] 27 (0, 0)) := by
    rw [he3.block _ (by simp) (HE1.out.inv.none_of_ge (Nat.le_refl _))]
    exact heap_alloc_new w1 _
  have hb0 : w2.heap[w.heap.size]? = some (.cells #[.slice none 0 0, .int .i64 0, .int .i64 0] 27 (0, 0)) := by
    rw [he3.block _ (by simp; omega) (HI.out.none_of_ge (Nat.le_refl _)), Below.heap_alloc _ _ _ (by omega)]
    exact HC0.out
  have k0 : w2.cell? ⟨w1.heap.size, 0, none⟩ = some (.slice a1 S.length c1) := by simp [World.cell?, hb1]
  have k1 : w2.cell? ⟨w1.heap.size, 1, none⟩ = some (.int .i64 r) := by simp [World.cell?, hb1]
  have k2 : w2.cell? ⟨w1.heap.size, 2, none⟩ = some (.int .i64 0) := by simp [World.cell?, hb1]
  have j0 : w2.cell? ⟨w.heap.size, 0, none⟩ = some (.slice none 0 0) := by simp [World.cell?, hb0]
  have j1 : w2.cell? ⟨w.heap.size, 1, none⟩ = some (.int .i64 0) := by simp [World.cell?, hb0]
  have j2 : w2.cell? ⟨w.heap.size, 2, none⟩ = some (.int .i64 0) := by simp [World.cell?, hb0]
  have z0 : ∀ o, w2.frozen? ⟨w.heap.size, o, none⟩ = false := fun o => by simp [World.frozen?, hb0]
  have HB0 := Lib.hid hb0
  have HE3 := Lib.hid he3
  have HM3 := Lib.hid hm3
  have hn2 : R2 w.heap.size = none := he3.free _ (by simp; omega) (HI.out.none_of_ge (Nat.le_refl _))
  have HN2 := Lib.hid hn2
  clear hb0 hb1 he3 hm3 hn2
  go_wp2_with fail
  go_region
  all_goals go_wp2_with fail
  have hb3 := set3 (x := .slice a1 S.length c1) (y := .int .i64 r) (z := .int .i64 0) HB0.out
  have w0 : ((((w2.setCell ⟨w.heap.size, 0, none⟩ (.slice a1 S.length c1)).setCell ⟨w.heap.size, 1, none⟩ (.int .i64 r)).setCell ⟨w.heap.size, 2, none⟩ (.int .i64 0)).drew).cell? ⟨w.heap.size, 0, none⟩ = some (.slice a1 S.length c1) := by rw [World.cell?_drew, cells_at hb3]; rfl
  have w1' : ((((w2.setCell ⟨w.heap.size, 0, none⟩ (.slice a1 S.length c1)).setCell ⟨w.heap.size, 1, none⟩ (.int .i64 r)).setCell ⟨w.heap.size, 2, none⟩ (.int .i64 0)).drew).cell? ⟨w.heap.size, 1, none⟩ = some (.int .i64 r) := by rw [World.cell?_drew, cells_at hb3]; rfl
  have w2' : ((((w2.setCell ⟨w.heap.size, 0, none⟩ (.slice a1 S.length c1)).setCell ⟨w.heap.size, 1, none⟩ (.int .i64 r)).setCell ⟨w.heap.size, 2, none⟩ (.int .i64 0)).drew).cell? ⟨w.heap.size, 2, none⟩ = some (.int .i64 0) := by rw [World.cell?_drew, cells_at hb3]; rfl
  refine bodyPost_ret (v := .tuple #[p, refV (.slice a1 S.length c1) r 0]) ?_ rfl ⟨p, a1, c1, R2, rfl, ?_, HM3.out, ?_⟩
  · simp only [World.cell?_drew] at w0 w1' w2'
    simp [results, Try.results16, go_sem, w0, w1', w2', refV]
  · exact ((((HE2.out.trans HE3.out).setCell (Nat.le_refl _) HN2.out _).setCell (Nat.le_refl _) HN2.out _).setCell (Nat.le_refl _) HN2.out _).drew
  · have ho3 := HO2.out.ev HE3.out
    have hne : ∀ (o : Nat), (Value.slice a1 S.length c1).ownBlock ≠ some (⟨w.heap.size, o, none⟩ : Addr).block := fun o e => by
      have h : w.heap.size + 1 ≤ w.heap.size := by have := (ho3.lt _ e).1; simpa using this
      omega
    exact ((((ho3.setCell (hne 0) _).setCell (hne 1) _).setCell (hne 2) _).drew).free

theorem stepL01 : stepL [0, 1] ((sizesL [0, 1]).length + 0) 0 (partC' [0, 1] 0) = [(0, 0), (1, 1)] := by
  rw [wpart perm01 (by decide) (by decide) (V := (sizesL [0, 1]).length) (Nat.le_refl _)]
  decide
theorem stepL10 : stepL [1, 0] ((sizesL [1, 0]).length + 0) 0 (partC' [1, 0] 0) = [(0, 2), (1, 3)] := by
  rw [wpart perm10 (by decide) (by decide) (V := (sizesL [1, 0]).length) (Nat.le_refl _)]
  decide

set_option maxRecDepth 100000 in
set_option maxHeartbeats 2000000 in
theorem awake9_any (R : Reg) (w : World) (hI : Inv R w) : Calls Try.prog 15 #[] w (RetTrue R w) := by
  have hok1 : MapOk [0, 1] 0 0 := by unfold MapOk; simp
  have hok2 : MapOk [1, 0] 0 0 := by unfold MapOk; simp
  have h1 := new_yes R _ (hI.alloc _) _ [1, 0] (FreeI.two hI 1 0) 0 0 perm10 hok2
  have H1 := Lib.hid h1
  have HI := Lib.hid hI
  have HO2 := Lib.hid hok1
  clear h1 hI hok1 hok2
  go_enter Try.func15, Try.ntmps15
  go_wp2_with fail
  refine H1.out.mono ?_
  rintro e w1 ⟨p, R1, rfl, he1, hp⟩
  have he1' := ((Ev.refl HI.out).alloc (.cells #[.int .i64 1, .int .i64 0] 3)).trans he1
  have h2 := new_yes R1 _ (he1'.inv.alloc _) _ [0, 1] (FreeI.two he1'.inv 0 1) 0 0 perm01 HO2.out
  have H2 := Lib.hid h2
  have HE1 := Lib.hid he1'
  have HP := Lib.hid hp
  clear he1 h2 he1' hp
  go_wp2_with fail
  refine H2.out.mono ?_
  rintro e w2 ⟨q, R2, rfl, he2, hq⟩
  have he2' := (HE1.out.alloc (.cells #[.int .i64 0, .int .i64 1] 3)).trans he2
  have h3 := walk_of R2 w2 he2'.inv p [1, 0] 0 0 ((he2.map HP.out)) 0 (by decide)
  rw [stepL10] at h3
  have H3 := Lib.hid h3
  have HE2 := Lib.hid he2'
  have HQ := Lib.hid hq
  clear he2 h3 he2' hq
  go_wp2_with fail
  refine H3.out.mono ?_
  rintro e w3 ⟨R3, a3, c3, rfl, he3, ho3⟩
  have h4 := walk_of R3 w3 he3.inv q [0, 1] 0 0 (he3.map HQ.out) 0 (by decide)
  rw [stepL01] at h4
  have H4 := Lib.hid h4
  have HE3 := Lib.hid (HE2.out.trans he3)
  have HF3 := Lib.hid (FreeS.of_own ho3)
  clear he3 ho3 h4
  go_wp2_with fail
  refine H4.out.mono ?_
  rintro e w4 ⟨R4, a4, c4, rfl, he4, ho4⟩
  have HE4 := Lib.hid (HE3.out.trans he4)
  have hf3 := HF3.out.ev he4
  have HF4 := Lib.hid (FreeS.of_own ho4)
  have h5 := word_any R4 w4 he4.inv a3 2 c3 _ hf3 (by omega)
  have H5 := Lib.hid h5
  clear he4 ho4 hf3 h5 HF3
  go_wp2_with fail
  refine H5.out.mono ?_
  rintro e w5 ⟨v5, rfl, he5, hw5⟩
  have e5 : wordL [((0 : Int), (2 : Int)), (1, 3)] = [2, 3] := rfl
  rw [e5] at hw5
  have ht5 := text_any R4 w5 he5.inv _ _ _ hw5 (by intro i hi; match i, hi with | 0, _ => exact ⟨by decide, by decide⟩ | 1, _ => exact ⟨by decide, by decide⟩) (by decide)
  have e6 : (Value.string ⟨(textL [2, 3]).toArray⟩) = .string ⟨#[91, 93]⟩ := rfl
  rw [e6] at ht5
  have HT5 := Lib.hid ht5
  have HE5 := Lib.hid (HE4.out.trans he5)
  have HF5 := Lib.hid (HF4.out.ev he5)
  clear he5 hw5 ht5 e5 e6
  go_wp2_with fail
  refine HT5.out.mono ?_
  rintro e w6 ⟨rfl, he6⟩
  have hf6 := HF5.out.ev he6
  have HE6 := Lib.hid (HE5.out.trans he6)
  have H6 := Lib.hid (word_any R4 w6 he6.inv a4 2 c4 _ hf6 (by omega))
  clear he6 hf6
  have hb1 : ((⟨#[91, 93]⟩ : ByteArray).toList == (⟨#[91, 93]⟩ : ByteArray).toList) = true := by simp
  go_wp2_with fail
  refine H6.out.mono ?_
  rintro e w7 ⟨v7, rfl, he7, hw7⟩
  have e7 : wordL [((0 : Int), (0 : Int)), (1, 1)] = [0, 1] := rfl
  rw [e7] at hw7
  have ht7 := text_any R4 w7 he7.inv _ _ _ hw7 (by intro i hi; match i, hi with | 0, _ => exact ⟨by decide, by decide⟩ | 1, _ => exact ⟨by decide, by decide⟩) (by decide)
  have e8 : (Value.string ⟨(textL [0, 1]).toArray⟩) = .string ⟨#[40, 41]⟩ := rfl
  rw [e8] at ht7
  have HT7 := Lib.hid ht7
  have HE7 := Lib.hid (HE6.out.trans he7)
  clear he7 hw7 ht7 e7 e8
  have hb2 : ((⟨#[40, 41]⟩ : ByteArray).toList == (⟨#[40, 41]⟩ : ByteArray).toList) = true := by simp
  go_wp2_with fail
  refine HT7.out.mono ?_
  rintro e w8 ⟨rfl, he8⟩
  have HE8 := Lib.hid (HE7.out.trans he8)
  clear he8
  go_wp2_with fail
  go_ret
  exact ⟨by simp, R4, HE8.out⟩

end Go.Proofs.Ytnbecpeiodcohaa

namespace Go.Proofs.Ytnbecpeiodcohaa
open Go.RowKit
set_option linter.unusedVariables false

/-- is each letter so far matched with its edge's other dart? -/
def matchB (s : List Nat) (V root : Nat) (X : List Int) : Nat → Bool
  | 0 => true
  | i + 1 => matchB s V root X i && decide (wd s V root (nth X i).toNat = wd s V root i ^^^ 1)
theorem matchB_iff (s : List Nat) (V root : Nat) (X : List Int) : ∀ n, matchB s V root X n = true ↔ ∀ j, j < n → wd s V root (nth X j).toNat = wd s V root j ^^^ 1
  | 0 => by simp [matchB]
  | n + 1 => by
    unfold matchB
    rw [Bool.and_eq_true, matchB_iff, decide_eq_true_eq]
    constructor
    · rintro ⟨h1, h2⟩ j hj
      by_cases e : j = n
      · subst e; exact h2
      · exact h1 j (by omega)
    · exact fun h => ⟨fun j hj => h j (by omega), h n (by omega)⟩
theorem partC_le (s : List Nat) (root : Nat) : partC' s root ≤ s.length := by unfold partC'; exact tally_le _ _

set_option maxRecDepth 100000 in
set_option maxHeartbeats 16000000 in
theorem walkPlane_walk (w : World) (n ro : Nat) (hn : n ≤ 255) (hro : ro ≤ 255) (v : Value) (bs : List Nat) (hv : FreeB noReg w v bs) :
    Calls Try.prog 9 #[.int .u8 (n : Int), v, .int .u8 (ro : Int)] w (RetTrue noReg w) := by
  have HA := Lib.hid (awake9_any noReg w (Inv.noReg w))
  have hnot := not_run
  have HV := Lib.hid hv
  have hS := mixL_perm (2 * (n % 14)) bs
  have hSl := mixL_length (2 * (n % 14)) bs
  have HM := Lib.hid (fun R w' (hI : Inv R w') (hv : FreeB R w' v bs) => made9_any R w' hI n hn v bs hv)
  obtain ⟨S, hSe⟩ : ∃ S, mixL (2 * (n % 14)) bs = S := ⟨_, rfl⟩
  obtain ⟨r, hre⟩ : ∃ r, anyRoot (n % 14) 0 = r := ⟨_, rfl⟩
  obtain ⟨m, hm⟩ : ∃ m, 2 * (n % 14) = m := ⟨_, rfl⟩
  have hm26 : m ≤ 26 := by omega
  have hev : m % 2 = 0 := by omega
  rw [hSe, hre] at HM
  rw [hSe, hm] at hSl
  rw [hSe] at hS
  rw [← hSl] at hev hm26
  obtain ⟨a0, c0, rfl, _⟩ := hv
  clear hSe hre hm hSl
  have HS := Lib.hid hS
  have HEv := Lib.hid hev
  clear hS
  go_enter Try.func9, Try.ntmps9
  go_wp2_with fail
  refine HA.out.mono ?_
  rintro e w1 ⟨rfl, R1, he1⟩
  have HE1 := Lib.hid he1
  clear he1
  go_wp2_with fail
  refine (HM.out R1 w1 HE1.out.inv (HV.out.ev HE1.out)).mono ?_
  rintro e w2 ⟨p, a1, c1, R2, rfl, he2, hp2, hf2⟩
  unfold refV
  have hnone : R2 w2.heap.size = none := he2.inv.none_of_ge (Nat.le_refl _)
  have hI3 := he2.inv.alloc (.cells #[.slice a1 S.length c1, .int .i64 r, .int .i64 0] 27)
  have hf3 := hf2.ev ((Ev.refl he2.inv).alloc (.cells #[.slice a1 S.length c1, .int .i64 r, .int .i64 0] 27))
  have HE2 := Lib.hid (HE1.out.trans he2)
  have HP3 := Lib.hid hp2
  have HX := Lib.hid (fun R' w' (h : Ev R2 (w2.alloc (.cells #[.slice a1 S.length c1, .int .i64 r, .int .i64 0] 27)) R' w') => h.ref3 hnone)
  have HF3 := Lib.hid hf3
  have HI3 := Lib.hid hI3
  clear he2 hp2 hf2 hI3 hnone hf3
  go_upto_region 4 with fail
  obtain ⟨w3, hw3⟩ : ∃ w3, w3 = w2.alloc (.cells #[.slice a1 S.length c1, .int .i64 r, .int .i64 0] 27) := ⟨_, rfl⟩
  have HE3 : Hid (Ev noReg w R2 w3) := by rw [hw3]; exact HE2.out.alloc _
  rw [← hw3] at HX HF3 HI3 ⊢
  clear hw3 HE2
  have HDa := Lib.hid (fun R' w' (he : Ev R2 w3 R' w') => darts_any R' w' he.inv p S r 0 (he.map HP3.out))
  by_cases h0 : S.length = 0
  · have hb : ((S.length : Int) == 0) = true := by simp [h0]
    have hnil : S = [] := List.eq_nil_of_length_eq_zero h0
    have hpl := planar_any R2 w3 HI3.out p S r 0 HP3.out
    have hg0 : (genusL S == 0) = true := by rw [hnil]; rfl
    rw [hg0] at hpl
    have HPl := Lib.hid hpl
    clear hpl hg0 hnil
    go_wp2_with fail
    refine (HDa.out _ _ (Ev.refl HI3.out)).mono ?_
    rintro e w4 ⟨rfl, rfl⟩
    go_wp2_with fail
    refine HPl.out.mono ?_
    rintro e w4 ⟨rfl, R4, he4⟩
    go_wp2_with fail
    go_ret
    exact ⟨rfl, R4, HE3.out.trans he4⟩
  · have hb : ((S.length : Int) == 0) = false := beq_eq_false_iff_ne.2 (by omega)
    obtain ⟨rt, hrt⟩ : ∃ rt, ro % S.length = rt := ⟨_, rfl⟩
    have hrl : rt < S.length := by rw [← hrt]; exact Nat.mod_lt _ (by omega)
    have hmod : (ro : Int) % (S.length : Int) = (rt : Int) := by rw [← hrt]; simp
    have hpos : (S.length : Int) ≠ 0 := by omega
    clear hrt

    have hVV : (sizesL S).length + 0 = (sizesL S).length := Nat.add_zero _
    obtain ⟨P, hPe⟩ : ∃ P, partC' S rt = P := ⟨_, rfl⟩
    have hP26 : P ≤ 26 := by have := partC_le S rt; omega
    have HPe := Lib.hid hPe
    have HWl := Lib.hid (wlen HS.out HEv.out hrl (V := (sizesL S).length) (Nat.le_refl _))
    have HWi := Lib.hid (fun j => (winv HS.out HEv.out hrl (V := (sizesL S).length) (Nat.le_refl _) j).lt j (Nat.le_refl _))
    have HNl := Lib.hid (partsL_length HS.out HEv.out)
    have hW := fun R' w' (he : Ev R2 w3 R' w') => walk_of R' w' he.inv p S r 0 (he.map HP3.out) rt hrl
    rw [hVV, hPe] at hW
    have HW := Lib.hid hW
    have HNm := Lib.hid (fun R' w' (he : Ev R2 w3 R' w') => r8names_any R' w' he.inv _ S r 0 (HF3.out.ev he) HS.out (by omega) HEv.out)
    have HRp := Lib.hid (fun R' w' (he : Ev R2 w3 R' w') => r8parts_any R' w' he.inv _ S r 0 (HF3.out.ev he) HS.out (by omega) HEv.out (by omega))
    unfold refV at HNm HRp
    simp only [show ((0 : Nat) : Int) = 0 from rfl] at HRp
    have hkk := partsL_lt HS.out HEv.out hrl
    obtain ⟨k, hk⟩ : ∃ k : Nat, nth (partsL S) rt = (k : Int) := ⟨(nth (partsL S) rt).toNat, by omega⟩
    have hkC : k < partsN S + 0 := by omega
    have hC26 := partsN_le HS.out HEv.out
    have HK := Lib.hid hk
    have HPF : Hid (partsF S k = partF S k) := Lib.hid (by unfold partsF; rw [if_pos (by omega)])
    clear hW hVV hPe hkk

    have hSt := stepL_length S (sizesL S).length rt P
    have hKp := fun k => kpair HS.out HEv.out hrl (V := (sizesL S).length) (Nat.le_refl _) k
    have hPw := fun X hd => plane_word HS.out HEv.out hrl (V := (sizesL S).length) (Nat.le_refl _) (c := k) (by omega) HK.out (X := X) hd
    rw [HPe.out] at hKp hPw
    obtain ⟨V, hV⟩ : ∃ V, (sizesL S).length = V := ⟨_, rfl⟩
    rw [hV] at HW HWi hSt hKp hPw
    have HPw := Lib.hid hPw
    have HKp := Lib.hid hKp
    obtain ⟨L, hL⟩ : ∃ L, stepL S V rt P = L := ⟨_, rfl⟩
    rw [hL] at HW hSt
    have HSt := Lib.hid hSt
    have HL := Lib.hid hL
    have HVv := Lib.hid hV
    clear hV hL hSt hKp hPw
    go_wp2_with fail
    refine (HDa.out _ _ (Ev.refl HI3.out)).mono ?_
    rintro e w4 ⟨rfl, rfl⟩
    go_wp2_with fail
    refine (HDa.out _ _ (Ev.refl HI3.out)).mono ?_
    rintro e w4 ⟨rfl, rfl⟩
    go_wp2_with fail
    refine (HW.out _ _ (Ev.refl HI3.out)).mono ?_
    rintro e w5 ⟨Rd, a5, c5, rfl, he5, ho5⟩
    rw [HSt.out]
    have hf5 := FreeS.of_own ho5
    rw [HSt.out] at hf5
    have HE5 := Lib.hid he5
    have HF5 := Lib.hid hf5
    have hLn : ∀ i, i < P → nthS L i = ((wd S V rt i : Int), (wk S V rt i : Int)) := fun i hi => by rw [← HL.out]; exact nthS_stepL hi
    have HLn := Lib.hid hLn
    clear he5 ho5 hf5 hLn
    go_wp2_with fail
    go_loopg [12, 45] P (fun gg v12 v45 wr => ∃ (i : Nat) (a6 : Option Addr) (l6 c6 : Nat), i ≤ P ∧ P - i ≤ gg ∧ v45 = .int .i64 (i : Int) ∧ v12 = .slice a6 l6 c6 ∧ Ev Rd w5 Rd wr ∧ OwnI Rd w5.heap.size 3 wr (.slice a6 l6 c6) (kindL S V rt i))
    case atStart => exact ⟨0, none, 0, 0, Nat.zero_le _, by omega, rfl, rfl, Ev.refl HE5.out.inv, OwnI.nil _ _ _ _⟩
    case round =>
      obtain ⟨i, a6, l6, c6, hi, hg, rfl, rfl, hev, ho6⟩ := hrel
      have HE := Lib.hid hev
      have HO6 := Lib.hid ho6
      clear hev ho6
      by_cases hil : i < P
      · obtain ⟨gs, os, rfl, hgn, k0, k1⟩ := (HF5.out.ev HE.out).at hil
        rw [HLn.out i hil] at k0 k1
        simp only at k0 k1
        obtain ⟨d, hd⟩ : ∃ d, wd S V rt i = d := ⟨_, rfl⟩
        obtain ⟨kk, hkk⟩ : ∃ d, wk S V rt i = d := ⟨_, rfl⟩
        have hks := kindL_succ S V rt i
        rw [hkk] at k1 hks
        rw [hd] at k0
        have HKs := Lib.hid hks
        have hkl := kindL_length S V rt i
        have HKl := Lib.hid hkl
        clear hks hkl hd hkk
        have HEa := Lib.hid ((HE.out.alloc (.cells #[.int .i64 (d : Int), .int .i64 (kk : Int)] 41)).alloc (.cells #[.int .i64 (kk : Int)] 3))
        have HOa := Lib.hid ((HO6.out.alloc (.cells #[.int .i64 (d : Int), .int .i64 (kk : Int)] 41)).alloc (.cells #[.int .i64 (kk : Int)] 3))
        have hz : w5.heap.size ≤ wr.heap.size := HE.out.size
        go_wp2_with (at_builtin; refine wpList_app_int (R := Rd) (B := w5.heap.size) rfl _ _ rfl HOa.out rfl ⟨wr.heap.size + 1, 0, none⟩ 1 (kk : Int) ?a0 ?a1 ?a2 ?a3 ?a4 ?_)
        case a0 => first | rfl | simp
        case a1 => exact cell_new (by simp) _ _
        case a2 => rw [HKl.out]; omega
        case a3 => simp; omega
        case a4 => exact fun q hq => HEa.out.inv.none_of_ge (by simp at hq ⊢; omega)
        intro v8 w6 ho8 hg6 hs6
        obtain ⟨a8, c8, rfl, _⟩ := ho8.ints.open
        obtain ⟨l8, hl8⟩ : ∃ l, (kindL S V rt i ++ [(kk : Int)]).length = l := ⟨_, rfl⟩
        rw [hl8] at ho8 hs6
        try rw [hl8]
        clear hl8
        have HE8 := Lib.hid (HEa.out.app HOa.out (Nat.le_refl _) hg6)
        have HO8 := Lib.hid ho8
        clear ho8 hg6 hs6
        go_wp2_with fail
        go_roundg (P - (i + 1))
        case measure => omega
        case rel => exact ⟨i + 1, a8, l8, c8, by omega, by omega, by go_num, rfl, HE8.out, by rw [HKs.out]; exact HO8.out⟩
      · obtain rfl : i = P := by omega
        have hkl := kindL_length S V rt i
        have hl6 : l6 = i := by rw [HO6.out.ints.length_eq, hkl]
        subst hl6
        have hk4 : ∀ j, j < (kindL S V rt l6).length → 0 ≤ nth (kindL S V rt l6) j ∧ nth (kindL S V rt l6) j ≤ 3 := fun j hj => by
          rw [hkl] at hj
          rw [kindL_nth hj]
          have := wk_le S V rt j
          omega
        have hgood : ∀ t : Nat, goodGo (ownL (kindL S V rt l6) t (kindL S V rt l6).length) 0 = true := fun t => good_of_pairing (HKp.out t) (by rw [ownL_length]; rfl) (fun i _ => by simp [opL])
        have HGd := Lib.hid (r4good_yes Rd wr HE.out.inv _ (kindL S V rt l6) HO6.out.free hk4 (by rw [hkl]; omega) (hgood 0) (hgood 1))
        have HMs := Lib.hid (fun w' (he : Ev Rd wr Rd w') => r4mates_any Rd w' he.inv _ (kindL S V rt l6) (HO6.out.free.ev he) hk4 (by rw [hkl]; omega) (fun t => _) (fun t _ => HKp.out t))
        have HKl := Lib.hid hkl
        clear hk4 hgood hkl
        go_wp2_with fail
        refine HGd.out.mono ?_
        rintro e w7 ⟨rfl, he7⟩
        have HE7 := Lib.hid (HE.out.trans he7)
        have HMt := Lib.hid (HMs.out w7 he7)
        clear he7
        go_wp2_with fail
        refine HMt.out.mono ?_
        rintro e w8 ⟨a8, c8, X, rfl, he8, hX, hdn, ho8⟩
        have hpw := HPw.out X hdn
        rw [HKl.out] at hX ho8 ⊢
        have HE8 := Lib.hid (HE5.out.trans (HE7.out.trans he8))
        have HF8 := Lib.hid (HF5.out.ev (HE7.out.trans he8))
        have HO8 := Lib.hid ho8
        have HX8 := Lib.hid hX
        have HPw2 := Lib.hid hpw
        clear hpw hX hdn he8 ho8 HMt HMs HGd HPw
        go_wp2_with fail
        obtain ⟨P, hPP⟩ : ∃ P, P = l6 := ⟨_, rfl⟩
        subst hPP
        go_loopg [15, 61] P (fun gg v15 v61 wr => ∃ i : Nat, i ≤ P ∧ P - i ≤ gg ∧ v15 = .bool (matchB S V rt X i) ∧ v61 = .int .i64 (i : Int) ∧ Ev Rd w8 Rd wr)
        case atStart => exact ⟨0, Nat.zero_le _, by omega, rfl, rfl, Ev.refl HE8.out.inv⟩
        case round =>
          obtain ⟨i, hi2, hg2, rfl, rfl, hev⟩ := hrel
          have HEi := Lib.hid hev
          clear hev
          by_cases hil : i < P
          · obtain ⟨x, hxP, hx⟩ := HPw2.out.1 i hil
            have hsucc : matchB S V rt X (i + 1) = (matchB S V rt X i && decide (wd S V rt (nth X i).toNat = wd S V rt i ^^^ 1)) := rfl
            rw [hx, Int.toNat_natCast] at hsucc
            obtain ⟨g8, rfl, _, _, m0, _⟩ := (HO8.out.ev HEi.out).headAt HX8.out hil
            rw [hx] at m0
            obtain ⟨gs, os, rfl, hgn, k0, k1⟩ := (HF8.out.ev HEi.out).at hil
            obtain ⟨_, _, e8, hgn2, j0, j1⟩ := (HF8.out.ev HEi.out).at hxP
            cases e8
            rw [HLn.out i hil] at k0
            rw [HLn.out x hxP] at j0
            simp only at k0 j0
            have hdl := HWi.out i
            have hmt := fun nq => mate_any Rd (wr.drewN nq) ((HE8.out.trans HEi.out).drewN nq).inv p S r 0 ((HE8.out.trans HEi.out).map HP3.out) (wd S V rt i)
            rw [mateI_in hdl] at hmt
            obtain ⟨d, hd⟩ : ∃ d, wd S V rt i = d := ⟨_, rfl⟩
            obtain ⟨d2, hd2⟩ : ∃ d, wd S V rt x = d := ⟨_, rfl⟩
            rw [hd] at hmt k0 hsucc
            rw [hd2] at j0 hsucc
            have HMt := Lib.hid hmt
            obtain ⟨b0, hb0⟩ : ∃ b, matchB S V rt X i = b := ⟨_, rfl⟩
            rw [hb0] at hsucc ⊢
            have he2 : (((d2 : Nat) : Int) == ((d ^^^ 1 : Nat) : Int)) = decide (d2 = d ^^^ 1) := by
              by_cases e : d2 = d ^^^ 1
              · rw [decide_eq_true e, e]; simp
              · rw [decide_eq_false e]; simp; omega
            obtain ⟨mm, hmm⟩ : ∃ m, (d ^^^ 1) = m := ⟨_, rfl⟩
            rw [hmm] at HMt hsucc he2
            have HSu := Lib.hid hsucc
            have HE2 := Lib.hid he2
            clear hsucc hmt hb0 hd hd2 hx k1 j1 hmm he2
            cases b0 with
            | true =>
              go_wp2_with fail
              go_quiet (first | (go_at_call 30; refine (HMt.out _).mono ?_; rintro e w' ⟨rfl, rfl⟩; exact ⟨rfl, _, rfl⟩))
              go_wp2_with fail
              go_roundg (P - (i + 1))
              case measure => omega
              case rel => exact ⟨i + 1, by omega, by omega, by rw [HSu.out, Bool.true_and, ← HE2.out], by go_num, HEi.out.drewN _⟩
            | false =>
              go_wp2_with fail
              go_quiet (fail)
              go_wp2_with fail
              go_roundg (P - (i + 1))
              case measure => omega
              case rel => exact ⟨i + 1, by omega, by omega, by rw [HSu.out, Bool.false_and], by go_num, HEi.out.drewN _⟩
          · obtain rfl : i = P := by omega
            obtain ⟨wd0, hwd0⟩ : ∃ w0, w0 = wr := ⟨_, rfl⟩
            subst hwd0
            have HEd0 := Lib.hid (HE8.out.trans HEi.out)
            clear HE8 HEi HO8 HF8 HX8
            go_upto_region 21 with fail

            obtain ⟨C, hC⟩ : ∃ C, partsN S + 0 = C := ⟨_, rfl⟩
            rw [hC] at HRp hkC
            have hCb : C ≤ 26 := by omega
            have HRG := Lib.hid (partsF_fields HS.out HEv.out (by omega) k)
            obtain ⟨pf, hpf⟩ : ∃ q, partsF S k = q := ⟨_, rfl⟩
            have HPf := Lib.hid hpf
            obtain ⟨p0, p1, p2, p3, p4⟩ := pf
            clear hpf hC
            go_cut [18] (fun s18 wx => PartVar Rd wd0 s18 wx p0 p1 p2 p3 p4)
            case first =>
              have HEd := Lib.hid ((Ev.refl HEd0.out.inv).drew)
              obtain ⟨x0, x1, x2⟩ := HX.out _ _ (HEd0.out.trans HEd.out)
              have hx0l := lt_of_cell x0
              obtain ⟨y0, y1, y2⟩ := HX.out _ _ HEd0.out
              have hy0l := lt_of_cell y0
              have HEdD := Lib.hid (fun o => ((Ev.refl HEd0.out.inv).alloc o).drew)
              go_region_with (first
                | (fail_if_success (have := HOr.out)
                   go_at_call 20; (with_reducible refine (HNm.out _ _ (HEd0.out.trans HEd.out)).mono ?_); rintro e w' ⟨vN, rfl, he, hoN⟩; have HEd := Lib.hid (HEd.out.trans he); (try (have HZ := Lib.hid (zero_ev HZ.out he); obtain ⟨z0, z1, z2, z3, z4, zf⟩ := zero_cells HZ.out.1)); obtain ⟨x0, x1, x2⟩ := HX.out _ _ (HEd0.out.trans HEd.out); obtain ⟨aN, cN, rfl, _⟩ := hoN.free.open; rw [HNl.out] at hoN ⊢; have HN1 := Lib.hid hoN; obtain ⟨gN, rfl, _, _, n0, _⟩ := hoN.headAt HNl.out (i := rt) hrl; rw [HK.out] at n0; clear he hoN; have hx0l := lt_of_cell x0; have hgNN := lt_of_cell n0)
                | (go_at_call 20; (with_reducible refine (HNm.out _ _ (HEd0.out.trans HEd.out)).mono ?_); rintro e w' ⟨vN, rfl, he, hoN⟩; have HEd := Lib.hid (HEd.out.trans he); (try (have HZ := Lib.hid (zero_ev HZ.out he); obtain ⟨z0, z1, z2, z3, z4, zf⟩ := zero_cells HZ.out.1)); obtain ⟨x0, x1, x2⟩ := HX.out _ _ (HEd0.out.trans HEd.out); obtain ⟨aN, cN, rfl, _⟩ := hoN.free.open; rw [HNl.out] at hoN ⊢; have HN1 := Lib.hid hoN; obtain ⟨gN, rfl, _, _, n0, _⟩ := hoN.headAt HNl.out (i := rt) hrl; rw [HK.out] at n0; have HOr := Lib.hid ((HOr.out).ev he); clear he hoN; obtain ⟨_, e1, _, _, d0, _⟩ := HOr.out.headAt (i := k * 5 + 0) (by rw [flatF_length]; omega); cases e1; obtain ⟨_, e1, _, _, d1, _⟩ := HOr.out.headAt (i := k * 5 + 1) (by rw [flatF_length]; omega); cases e1; obtain ⟨_, e1, _, _, d2, _⟩ := HOr.out.headAt (i := k * 5 + 2) (by rw [flatF_length]; omega); cases e1; obtain ⟨_, e1, _, _, d3, _⟩ := HOr.out.headAt (i := k * 5 + 3) (by rw [flatF_length]; omega); cases e1; obtain ⟨_, e1, _, _, d4, _⟩ := HOr.out.headAt (i := k * 5 + 4) (by rw [flatF_length]; omega); cases e1; rw [flatF_get (by omega) hkC, HPf.out] at d0 d1 d2 d3 d4; have k0 : w'.cell? ⟨gr, k * 5, none⟩ = some (.int .i64 p0) := d0; have k1 : w'.cell? ⟨gr, k * 5 + 1, none⟩ = some (.int .i64 p1) := d1; have k2 : w'.cell? ⟨gr, k * 5 + 2, none⟩ = some (.int .i64 p2) := d2; have k3 : w'.cell? ⟨gr, k * 5 + 3, none⟩ = some (.int .i64 p3) := d3; have k4 : w'.cell? ⟨gr, k * 5 + 4, none⟩ = some (.int .i64 p4) := d4; clear d0 d1 d2 d3 d4; have hgrl := lt_of_cell k0; have hx0l := lt_of_cell x0; have hgNN := lt_of_cell n0)
                | (fail_if_success (have := HN1.out)
                   go_at_call 19; (with_reducible refine (HRp.out _ _ (HEd0.out.trans HEd.out)).mono ?_); rintro e w' ⟨vr, rfl, he, ar, cr, rfl, hor⟩; have HEd := Lib.hid (HEd.out.trans he); (try (have HZ := Lib.hid (zero_ev HZ.out he); obtain ⟨z0, z1, z2, z3, z4, zf⟩ := zero_cells HZ.out.1)); obtain ⟨x0, x1, x2⟩ := HX.out _ _ (HEd0.out.trans HEd.out); have HOr := Lib.hid hor; clear he hor; obtain ⟨gr, rfl, _, _, d0, _⟩ := HOr.out.headAt (i := k * 5 + 0) (by rw [flatF_length]; omega); obtain ⟨_, e1, _, _, d1, _⟩ := HOr.out.headAt (i := k * 5 + 1) (by rw [flatF_length]; omega); cases e1; obtain ⟨_, e1, _, _, d2, _⟩ := HOr.out.headAt (i := k * 5 + 2) (by rw [flatF_length]; omega); cases e1; obtain ⟨_, e1, _, _, d3, _⟩ := HOr.out.headAt (i := k * 5 + 3) (by rw [flatF_length]; omega); cases e1; obtain ⟨_, e1, _, _, d4, _⟩ := HOr.out.headAt (i := k * 5 + 4) (by rw [flatF_length]; omega); cases e1; rw [flatF_get (by omega) hkC, HPf.out] at d0 d1 d2 d3 d4; have k0 : w'.cell? ⟨gr, k * 5, none⟩ = some (.int .i64 p0) := d0; have k1 : w'.cell? ⟨gr, k * 5 + 1, none⟩ = some (.int .i64 p1) := d1; have k2 : w'.cell? ⟨gr, k * 5 + 2, none⟩ = some (.int .i64 p2) := d2; have k3 : w'.cell? ⟨gr, k * 5 + 3, none⟩ = some (.int .i64 p3) := d3; have k4 : w'.cell? ⟨gr, k * 5 + 4, none⟩ = some (.int .i64 p4) := d4; clear d0 d1 d2 d3 d4; have hgrl := lt_of_cell k0; have hx0l := lt_of_cell x0)
                | (go_at_call 19; (with_reducible refine (HRp.out _ _ (HEd0.out.trans HEd.out)).mono ?_); rintro e w' ⟨vr, rfl, he, ar, cr, rfl, hor⟩; have HEd := Lib.hid (HEd.out.trans he); (try (have HZ := Lib.hid (zero_ev HZ.out he); obtain ⟨z0, z1, z2, z3, z4, zf⟩ := zero_cells HZ.out.1)); obtain ⟨x0, x1, x2⟩ := HX.out _ _ (HEd0.out.trans HEd.out); have HOr := Lib.hid hor; have HN1 := Lib.hid ((HN1.out).ev he); obtain ⟨_, e1, _, _, n0, _⟩ := HN1.out.headAt HNl.out (i := rt) hrl; cases e1; rw [HK.out] at n0; clear he hor; obtain ⟨gr, rfl, _, _, d0, _⟩ := HOr.out.headAt (i := k * 5 + 0) (by rw [flatF_length]; omega); obtain ⟨_, e1, _, _, d1, _⟩ := HOr.out.headAt (i := k * 5 + 1) (by rw [flatF_length]; omega); cases e1; obtain ⟨_, e1, _, _, d2, _⟩ := HOr.out.headAt (i := k * 5 + 2) (by rw [flatF_length]; omega); cases e1; obtain ⟨_, e1, _, _, d3, _⟩ := HOr.out.headAt (i := k * 5 + 3) (by rw [flatF_length]; omega); cases e1; obtain ⟨_, e1, _, _, d4, _⟩ := HOr.out.headAt (i := k * 5 + 4) (by rw [flatF_length]; omega); cases e1; rw [flatF_get (by omega) hkC, HPf.out] at d0 d1 d2 d3 d4; have k0 : w'.cell? ⟨gr, k * 5, none⟩ = some (.int .i64 p0) := d0; have k1 : w'.cell? ⟨gr, k * 5 + 1, none⟩ = some (.int .i64 p1) := d1; have k2 : w'.cell? ⟨gr, k * 5 + 2, none⟩ = some (.int .i64 p2) := d2; have k3 : w'.cell? ⟨gr, k * 5 + 3, none⟩ = some (.int .i64 p3) := d3; have k4 : w'.cell? ⟨gr, k * 5 + 4, none⟩ = some (.int .i64 p4) := d4; clear d0 d1 d2 d3 d4; have hgrl := lt_of_cell k0; have hx0l := lt_of_cell x0; have hgNN := lt_of_cell n0)
                | (fail_if_success (have := HOr.out)
                   go_at_call 20; (with_reducible refine (HNm.out _ _ (HEd0.out.trans (HEd.out.alloc _))).mono ?_); rintro e w' ⟨vN, rfl, he, hoN⟩; have hneA := Nat.ne_of_gt (lt_of_cell x0); have HZ := Lib.hid (zero_evA HEd.out he); obtain ⟨z0, z1, z2, z3, z4, zf⟩ := zero_cells HZ.out.1; have HEd := Lib.hid ((HEd.out.alloc _).trans he); obtain ⟨x0, x1, x2⟩ := HX.out _ _ (HEd0.out.trans HEd.out); obtain ⟨aN, cN, rfl, _⟩ := hoN.free.open; rw [HNl.out] at hoN ⊢; have HN1 := Lib.hid hoN; obtain ⟨gN, rfl, _, _, n0, _⟩ := hoN.headAt HNl.out (i := rt) hrl; rw [HK.out] at n0; clear he hoN; have hx0l := lt_of_cell x0; have hgNN := lt_of_cell n0)
                | (go_at_call 20; (with_reducible refine (HNm.out _ _ (HEd0.out.trans (HEd.out.alloc _))).mono ?_); rintro e w' ⟨vN, rfl, he, hoN⟩; have hneA := Nat.ne_of_gt (lt_of_cell x0); have HZ := Lib.hid (zero_evA HEd.out he); obtain ⟨z0, z1, z2, z3, z4, zf⟩ := zero_cells HZ.out.1; have HEd := Lib.hid ((HEd.out.alloc _).trans he); obtain ⟨x0, x1, x2⟩ := HX.out _ _ (HEd0.out.trans HEd.out); obtain ⟨aN, cN, rfl, _⟩ := hoN.free.open; rw [HNl.out] at hoN ⊢; have HN1 := Lib.hid hoN; obtain ⟨gN, rfl, _, _, n0, _⟩ := hoN.headAt HNl.out (i := rt) hrl; rw [HK.out] at n0; have HOr := Lib.hid ((HOr.out.alloc _).ev he); clear he hoN; obtain ⟨_, e1, _, _, d0, _⟩ := HOr.out.headAt (i := k * 5 + 0) (by rw [flatF_length]; omega); cases e1; obtain ⟨_, e1, _, _, d1, _⟩ := HOr.out.headAt (i := k * 5 + 1) (by rw [flatF_length]; omega); cases e1; obtain ⟨_, e1, _, _, d2, _⟩ := HOr.out.headAt (i := k * 5 + 2) (by rw [flatF_length]; omega); cases e1; obtain ⟨_, e1, _, _, d3, _⟩ := HOr.out.headAt (i := k * 5 + 3) (by rw [flatF_length]; omega); cases e1; obtain ⟨_, e1, _, _, d4, _⟩ := HOr.out.headAt (i := k * 5 + 4) (by rw [flatF_length]; omega); cases e1; rw [flatF_get (by omega) hkC, HPf.out] at d0 d1 d2 d3 d4; have k0 : w'.cell? ⟨gr, k * 5, none⟩ = some (.int .i64 p0) := d0; have k1 : w'.cell? ⟨gr, k * 5 + 1, none⟩ = some (.int .i64 p1) := d1; have k2 : w'.cell? ⟨gr, k * 5 + 2, none⟩ = some (.int .i64 p2) := d2; have k3 : w'.cell? ⟨gr, k * 5 + 3, none⟩ = some (.int .i64 p3) := d3; have k4 : w'.cell? ⟨gr, k * 5 + 4, none⟩ = some (.int .i64 p4) := d4; clear d0 d1 d2 d3 d4; have hgrl := lt_of_cell k0; have hx0l := lt_of_cell x0; have hgNN := lt_of_cell n0)
                | (fail_if_success (have := HN1.out)
                   go_at_call 19; (with_reducible refine (HRp.out _ _ (HEd0.out.trans (HEd.out.alloc _))).mono ?_); rintro e w' ⟨vr, rfl, he, ar, cr, rfl, hor⟩; have hneA := Nat.ne_of_gt (lt_of_cell x0); have HZ := Lib.hid (zero_evA HEd.out he); obtain ⟨z0, z1, z2, z3, z4, zf⟩ := zero_cells HZ.out.1; have HEd := Lib.hid ((HEd.out.alloc _).trans he); obtain ⟨x0, x1, x2⟩ := HX.out _ _ (HEd0.out.trans HEd.out); have HOr := Lib.hid hor; clear he hor; obtain ⟨gr, rfl, _, _, d0, _⟩ := HOr.out.headAt (i := k * 5 + 0) (by rw [flatF_length]; omega); obtain ⟨_, e1, _, _, d1, _⟩ := HOr.out.headAt (i := k * 5 + 1) (by rw [flatF_length]; omega); cases e1; obtain ⟨_, e1, _, _, d2, _⟩ := HOr.out.headAt (i := k * 5 + 2) (by rw [flatF_length]; omega); cases e1; obtain ⟨_, e1, _, _, d3, _⟩ := HOr.out.headAt (i := k * 5 + 3) (by rw [flatF_length]; omega); cases e1; obtain ⟨_, e1, _, _, d4, _⟩ := HOr.out.headAt (i := k * 5 + 4) (by rw [flatF_length]; omega); cases e1; rw [flatF_get (by omega) hkC, HPf.out] at d0 d1 d2 d3 d4; have k0 : w'.cell? ⟨gr, k * 5, none⟩ = some (.int .i64 p0) := d0; have k1 : w'.cell? ⟨gr, k * 5 + 1, none⟩ = some (.int .i64 p1) := d1; have k2 : w'.cell? ⟨gr, k * 5 + 2, none⟩ = some (.int .i64 p2) := d2; have k3 : w'.cell? ⟨gr, k * 5 + 3, none⟩ = some (.int .i64 p3) := d3; have k4 : w'.cell? ⟨gr, k * 5 + 4, none⟩ = some (.int .i64 p4) := d4; clear d0 d1 d2 d3 d4; have hgrl := lt_of_cell k0; have hx0l := lt_of_cell x0)
                | (go_at_call 19; (with_reducible refine (HRp.out _ _ (HEd0.out.trans (HEd.out.alloc _))).mono ?_); rintro e w' ⟨vr, rfl, he, ar, cr, rfl, hor⟩; have hneA := Nat.ne_of_gt (lt_of_cell x0); have HZ := Lib.hid (zero_evA HEd.out he); obtain ⟨z0, z1, z2, z3, z4, zf⟩ := zero_cells HZ.out.1; have HEd := Lib.hid ((HEd.out.alloc _).trans he); obtain ⟨x0, x1, x2⟩ := HX.out _ _ (HEd0.out.trans HEd.out); have HOr := Lib.hid hor; have HN1 := Lib.hid ((HN1.out.alloc _).ev he); obtain ⟨_, e1, _, _, n0, _⟩ := HN1.out.headAt HNl.out (i := rt) hrl; cases e1; rw [HK.out] at n0; clear he hor; obtain ⟨gr, rfl, _, _, d0, _⟩ := HOr.out.headAt (i := k * 5 + 0) (by rw [flatF_length]; omega); obtain ⟨_, e1, _, _, d1, _⟩ := HOr.out.headAt (i := k * 5 + 1) (by rw [flatF_length]; omega); cases e1; obtain ⟨_, e1, _, _, d2, _⟩ := HOr.out.headAt (i := k * 5 + 2) (by rw [flatF_length]; omega); cases e1; obtain ⟨_, e1, _, _, d3, _⟩ := HOr.out.headAt (i := k * 5 + 3) (by rw [flatF_length]; omega); cases e1; obtain ⟨_, e1, _, _, d4, _⟩ := HOr.out.headAt (i := k * 5 + 4) (by rw [flatF_length]; omega); cases e1; rw [flatF_get (by omega) hkC, HPf.out] at d0 d1 d2 d3 d4; have k0 : w'.cell? ⟨gr, k * 5, none⟩ = some (.int .i64 p0) := d0; have k1 : w'.cell? ⟨gr, k * 5 + 1, none⟩ = some (.int .i64 p1) := d1; have k2 : w'.cell? ⟨gr, k * 5 + 2, none⟩ = some (.int .i64 p2) := d2; have k3 : w'.cell? ⟨gr, k * 5 + 3, none⟩ = some (.int .i64 p3) := d3; have k4 : w'.cell? ⟨gr, k * 5 + 4, none⟩ = some (.int .i64 p4) := d4; clear d0 d1 d2 d3 d4; have hgrl := lt_of_cell k0; have hx0l := lt_of_cell x0; have hgNN := lt_of_cell n0)
                | (fail_if_success (have := HOr.out)
                   go_at_call 20; (with_reducible refine (HNm.out _ _ (HEd0.out.trans (HEdD.out _))).mono ?_); rintro e w' ⟨vN, rfl, he, hoN⟩; have hneA := Nat.ne_of_gt hy0l; have HZ := Lib.hid (zero_evD HEd0.out.inv he); obtain ⟨z0, z1, z2, z3, z4, zf⟩ := zero_cells HZ.out.1; have HEd := Lib.hid ((HEdD.out _).trans he); obtain ⟨x0, x1, x2⟩ := HX.out _ _ (HEd0.out.trans HEd.out); obtain ⟨aN, cN, rfl, _⟩ := hoN.free.open; rw [HNl.out] at hoN ⊢; have HN1 := Lib.hid hoN; obtain ⟨gN, rfl, _, _, n0, _⟩ := hoN.headAt HNl.out (i := rt) hrl; rw [HK.out] at n0; clear he hoN; have hx0l := lt_of_cell x0; have hgNN := lt_of_cell n0)
                | (fail_if_success (have := HN1.out)
                   go_at_call 19; (with_reducible refine (HRp.out _ _ (HEd0.out.trans (HEdD.out _))).mono ?_); rintro e w' ⟨vr, rfl, he, ar, cr, rfl, hor⟩; have hneA := Nat.ne_of_gt hy0l; have HZ := Lib.hid (zero_evD HEd0.out.inv he); obtain ⟨z0, z1, z2, z3, z4, zf⟩ := zero_cells HZ.out.1; have HEd := Lib.hid ((HEdD.out _).trans he); obtain ⟨x0, x1, x2⟩ := HX.out _ _ (HEd0.out.trans HEd.out); have HOr := Lib.hid hor; clear he hor; obtain ⟨gr, rfl, _, _, d0, _⟩ := HOr.out.headAt (i := k * 5 + 0) (by rw [flatF_length]; omega); obtain ⟨_, e1, _, _, d1, _⟩ := HOr.out.headAt (i := k * 5 + 1) (by rw [flatF_length]; omega); cases e1; obtain ⟨_, e1, _, _, d2, _⟩ := HOr.out.headAt (i := k * 5 + 2) (by rw [flatF_length]; omega); cases e1; obtain ⟨_, e1, _, _, d3, _⟩ := HOr.out.headAt (i := k * 5 + 3) (by rw [flatF_length]; omega); cases e1; obtain ⟨_, e1, _, _, d4, _⟩ := HOr.out.headAt (i := k * 5 + 4) (by rw [flatF_length]; omega); cases e1; rw [flatF_get (by omega) hkC, HPf.out] at d0 d1 d2 d3 d4; have k0 : w'.cell? ⟨gr, k * 5, none⟩ = some (.int .i64 p0) := d0; have k1 : w'.cell? ⟨gr, k * 5 + 1, none⟩ = some (.int .i64 p1) := d1; have k2 : w'.cell? ⟨gr, k * 5 + 2, none⟩ = some (.int .i64 p2) := d2; have k3 : w'.cell? ⟨gr, k * 5 + 3, none⟩ = some (.int .i64 p3) := d3; have k4 : w'.cell? ⟨gr, k * 5 + 4, none⟩ = some (.int .i64 p4) := d4; clear d0 d1 d2 d3 d4; have hgrl := lt_of_cell k0; have hx0l := lt_of_cell x0))
              all_goals (go_wp2_with fail; go_meet)
              all_goals first | (with_reducible exact PartVar.new HEd.out) | exact PartVar.old HEd.out HZ.out
            case rest =>
              obtain ⟨g, Rx, rfl, he, hgn, g0, g1, g2, g3, g4⟩ := hcut
              obtain ⟨wx, hwx⟩ : ∃ wx, wx = wc := ⟨_, rfl⟩
              subst hwx
              have hpf : partF S k = ⟨p0, p1, p2, p3, p4⟩ := by rw [← HPF.out, HPf.out]
              have hp4 : genOf S (partsL S) k = p4 := congrArg PartR.g hpf
              have hfin : matchB S V rt X i = (p4 == 0) := by
                rw [Bool.eq_iff_iff, matchB_iff, HPw2.out.2, hp4]
                simp
              obtain ⟨b, hb⟩ : ∃ b, matchB S V rt X i = b := ⟨_, rfl⟩
              rw [hb] at hfin
              rw [hb]
              have hbb : (b == (p4 == (0 : Int))) = true := by rw [hfin]; simp
              have HEx := Lib.hid (HEd0.out.trans he)
              clear g0 g1 g2 g3 he hgn hpf hp4 hfin hb
              go_wp2_with fail
              go_ret
              exact ⟨rfl, Rx, HE3.out.trans HEx.out⟩


end Go.Proofs.Ytnbecpeiodcohaa
