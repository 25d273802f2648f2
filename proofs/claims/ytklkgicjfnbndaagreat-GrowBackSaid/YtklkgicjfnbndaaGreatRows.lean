/-
  No cell of these rows narrows 'for every input' (looked for: loops, veiled, ifaces, maps, wideKeys, modest, calm, conditions, laid).
  DERIVED. THE GIVEN ROWS OF THIS SEAT. 7 by the template 'for every input the law returns true; each argument reads behind the call as it read before'; 0 by the template 'total and deterministic' (their statements: YtklkgicjfnbndaaGreatTotals.lean).
  GIVEN WITH THE SEED: the statements are not yours to turn. If you find one false, say at which input.
  Laid BY PROGRAM, IN A SANDBOX (cutbox-rows.mjs): the forced cells as the released guide's own fill.sh prints them over the translation 2ce1baff3df56c8e… (all of the seat's roots in one cut). By AI agents, Wed Nov 11 2026. No macro, syntax, notation, axiom, sorry.
-/
import Derived.Test.YtklkgicjfnbndaaGreatChecked
import GoSem.Claim
import GoSem.ClaimJoined
import GoSem.ClaimMapViews
import Derived.JoinedTies
import Derived.KernelRfl
namespace Go.Proofs.YtklkgicjfnbndaaGreat
/- THE CELL 'sum', in the pinned program and in every row, IS THE sha256 OF THE DUMP (.gsa) THAT YtklkgicjfnbndaaGreatProg.lean LOADS. Nothing in Lean hashes anything: it is a label: what it is worth is what the hold of that sum in a sandbox is worth. -/
noncomputable def Tryz.pinned : Pinned := { name := "ytklkgicjfnbndaagreat", sum := "2ce1baff3df56c8e4a9248a70e3b8233585f851b47ba9e7e39e5c826ab2a5c6e", checked := Tryz.checked }
namespace Rows
def none {H : Type} : Left H := { results := [], args := [] }

/-- 'parquetrylaw23.GrowFlips': WHATEVER THE INPUT: true; the input reads as it did. -/
def growFlipsSpec : ChangeSpec := { name := "growFlips", fn := fun _ => fun
  | [d1, d2, d3, d4] => { results := [.lit (.bool true)], args := [d1, d2, d3, d4] }
  | _ => none }
def growFlipsRow : OpenClaim := { program := "ytklkgicjfnbndaagreat", sum := "2ce1baff3df56c8e4a9248a70e3b8233585f851b47ba9e7e39e5c826ab2a5c6e", func := "parquetry/parquetrylaw23.GrowFlips", spec := "growFlips", inPlace := ["sync/atomic.LoadUint32", "(*internal/sync.Mutex).Lock", "internal/race.Disable", "sync/atomic.CompareAndSwapInt32", "internal/race.Enable", "internal/race.Acquire", "(*internal/sync.Mutex).lockSlow", "internal/sync.runtime_canSpin", "internal/sync.runtime_doSpin", "internal/sync.throw", "internal/sync.runtime_nanotime", "internal/sync.runtime_SemacquireMutex", "sync/atomic.AddInt32", "(*internal/sync.Mutex).Unlock", "internal/race.ReleaseMerge", "(*internal/sync.Mutex).unlockSlow", "internal/sync.fatal", "internal/sync.runtime_Semrelease", "sync/atomic.StoreUint32"], unfollowed := true, recurses := true, plainKeys := false, apart := false }
def GrowFlipsSaid : Prop := growFlipsRow.holds Tryz.pinned (OpenSpec.ofChange growFlipsSpec)

/-- ITS FALSE NEIGHBOUR: 'it returns false'. Refute it at one input. -/
def growFlipsWrong : ChangeSpec := { name := "growFlips", fn := fun _ => fun
  | [d1, d2, d3, d4] => { results := [.lit (.bool false)], args := [d1, d2, d3, d4] }
  | _ => none }
def GrowFlipsWrongFalsely : Prop := growFlipsRow.holds Tryz.pinned (OpenSpec.ofChange growFlipsWrong)

/-- 'parquetrylaw23.GrowBack': WHATEVER THE INPUT: true; the input reads as it did. -/
def growBackSpec : ChangeSpec := { name := "growBack", fn := fun _ => fun
  | [d1, d2, d3, d4, d5, d6, d7] => { results := [.lit (.bool true)], args := [d1, d2, d3, d4, d5, d6, d7] }
  | _ => none }
def growBackRow : OpenClaim := { program := "ytklkgicjfnbndaagreat", sum := "2ce1baff3df56c8e4a9248a70e3b8233585f851b47ba9e7e39e5c826ab2a5c6e", func := "parquetry/parquetrylaw23.GrowBack", spec := "growBack", inPlace := ["sync/atomic.LoadUint32", "(*internal/sync.Mutex).Lock", "internal/race.Disable", "sync/atomic.CompareAndSwapInt32", "internal/race.Enable", "internal/race.Acquire", "(*internal/sync.Mutex).lockSlow", "internal/sync.runtime_canSpin", "internal/sync.runtime_doSpin", "internal/sync.throw", "internal/sync.runtime_nanotime", "internal/sync.runtime_SemacquireMutex", "sync/atomic.AddInt32", "(*internal/sync.Mutex).Unlock", "internal/race.ReleaseMerge", "(*internal/sync.Mutex).unlockSlow", "internal/sync.fatal", "internal/sync.runtime_Semrelease", "sync/atomic.StoreUint32"], unfollowed := true, recurses := true, plainKeys := false, apart := false }
def GrowBackSaid : Prop := growBackRow.holds Tryz.pinned (OpenSpec.ofChange growBackSpec)

/-- ITS FALSE NEIGHBOUR: 'it returns false'. Refute it at one input. -/
def growBackWrong : ChangeSpec := { name := "growBack", fn := fun _ => fun
  | [d1, d2, d3, d4, d5, d6, d7] => { results := [.lit (.bool false)], args := [d1, d2, d3, d4, d5, d6, d7] }
  | _ => none }
def GrowBackWrongFalsely : Prop := growBackRow.holds Tryz.pinned (OpenSpec.ofChange growBackWrong)

/-- 'parquetrylaw24.ScriptSizes': WHATEVER THE INPUT: true; the input reads as it did. -/
def scriptSizesSpec : ChangeSpec := { name := "scriptSizes", fn := fun _ => fun
  | [d] => { results := [.lit (.bool true)], args := [d] }
  | _ => none }
def scriptSizesRow : OpenClaim := { program := "ytklkgicjfnbndaagreat", sum := "2ce1baff3df56c8e4a9248a70e3b8233585f851b47ba9e7e39e5c826ab2a5c6e", func := "parquetry/parquetrylaw24.ScriptSizes", spec := "scriptSizes", inPlace := ["sync/atomic.LoadUint32", "(*internal/sync.Mutex).Lock", "internal/race.Disable", "sync/atomic.CompareAndSwapInt32", "internal/race.Enable", "internal/race.Acquire", "(*internal/sync.Mutex).lockSlow", "internal/sync.runtime_canSpin", "internal/sync.runtime_doSpin", "internal/sync.throw", "internal/sync.runtime_nanotime", "internal/sync.runtime_SemacquireMutex", "sync/atomic.AddInt32", "(*internal/sync.Mutex).Unlock", "internal/race.ReleaseMerge", "(*internal/sync.Mutex).unlockSlow", "internal/sync.fatal", "internal/sync.runtime_Semrelease", "sync/atomic.StoreUint32"], unfollowed := true, recurses := true, plainKeys := false, apart := false }
def ScriptSizesSaid : Prop := scriptSizesRow.holds Tryz.pinned (OpenSpec.ofChange scriptSizesSpec)

/-- ITS FALSE NEIGHBOUR: 'it returns false'. Refute it at one input. -/
def scriptSizesWrong : ChangeSpec := { name := "scriptSizes", fn := fun _ => fun
  | [d] => { results := [.lit (.bool false)], args := [d] }
  | _ => none }
def ScriptSizesWrongFalsely : Prop := scriptSizesRow.holds Tryz.pinned (OpenSpec.ofChange scriptSizesWrong)

/-- 'parquetrylaw24.ScriptNames': WHATEVER THE INPUT: true; the input reads as it did. -/
def scriptNamesSpec : ChangeSpec := { name := "scriptNames", fn := fun _ => fun
  | [d] => { results := [.lit (.bool true)], args := [d] }
  | _ => none }
def scriptNamesRow : OpenClaim := { program := "ytklkgicjfnbndaagreat", sum := "2ce1baff3df56c8e4a9248a70e3b8233585f851b47ba9e7e39e5c826ab2a5c6e", func := "parquetry/parquetrylaw24.ScriptNames", spec := "scriptNames", inPlace := ["sync/atomic.LoadUint32", "(*internal/sync.Mutex).Lock", "internal/race.Disable", "sync/atomic.CompareAndSwapInt32", "internal/race.Enable", "internal/race.Acquire", "(*internal/sync.Mutex).lockSlow", "internal/sync.runtime_canSpin", "internal/sync.runtime_doSpin", "internal/sync.throw", "internal/sync.runtime_nanotime", "internal/sync.runtime_SemacquireMutex", "sync/atomic.AddInt32", "(*internal/sync.Mutex).Unlock", "internal/race.ReleaseMerge", "(*internal/sync.Mutex).unlockSlow", "internal/sync.fatal", "internal/sync.runtime_Semrelease", "sync/atomic.StoreUint32"], unfollowed := true, recurses := true, plainKeys := false, apart := false }
def ScriptNamesSaid : Prop := scriptNamesRow.holds Tryz.pinned (OpenSpec.ofChange scriptNamesSpec)

/-- ITS FALSE NEIGHBOUR: 'it returns false'. Refute it at one input. -/
def scriptNamesWrong : ChangeSpec := { name := "scriptNames", fn := fun _ => fun
  | [d] => { results := [.lit (.bool false)], args := [d] }
  | _ => none }
def ScriptNamesWrongFalsely : Prop := scriptNamesRow.holds Tryz.pinned (OpenSpec.ofChange scriptNamesWrong)

/-- 'parquetrylaw24.ScriptDoes': WHATEVER THE INPUT: true; the input reads as it did. -/
def scriptDoesSpec : ChangeSpec := { name := "scriptDoes", fn := fun _ => fun
  | [d1, d2, d3, d4, d5] => { results := [.lit (.bool true)], args := [d1, d2, d3, d4, d5] }
  | _ => none }
def scriptDoesRow : OpenClaim := { program := "ytklkgicjfnbndaagreat", sum := "2ce1baff3df56c8e4a9248a70e3b8233585f851b47ba9e7e39e5c826ab2a5c6e", func := "parquetry/parquetrylaw24.ScriptDoes", spec := "scriptDoes", inPlace := ["sync/atomic.LoadUint32", "(*internal/sync.Mutex).Lock", "internal/race.Disable", "sync/atomic.CompareAndSwapInt32", "internal/race.Enable", "internal/race.Acquire", "(*internal/sync.Mutex).lockSlow", "internal/sync.runtime_canSpin", "internal/sync.runtime_doSpin", "internal/sync.throw", "internal/sync.runtime_nanotime", "internal/sync.runtime_SemacquireMutex", "sync/atomic.AddInt32", "(*internal/sync.Mutex).Unlock", "internal/race.ReleaseMerge", "(*internal/sync.Mutex).unlockSlow", "internal/sync.fatal", "internal/sync.runtime_Semrelease", "sync/atomic.StoreUint32"], unfollowed := true, recurses := true, plainKeys := false, apart := false }
def ScriptDoesSaid : Prop := scriptDoesRow.holds Tryz.pinned (OpenSpec.ofChange scriptDoesSpec)

/-- ITS FALSE NEIGHBOUR: 'it returns false'. Refute it at one input. -/
def scriptDoesWrong : ChangeSpec := { name := "scriptDoes", fn := fun _ => fun
  | [d1, d2, d3, d4, d5] => { results := [.lit (.bool false)], args := [d1, d2, d3, d4, d5] }
  | _ => none }
def ScriptDoesWrongFalsely : Prop := scriptDoesRow.holds Tryz.pinned (OpenSpec.ofChange scriptDoesWrong)

/-- 'parquetrylaw24.ScriptParts': WHATEVER THE INPUT: true; the input reads as it did. -/
def scriptPartsSpec : ChangeSpec := { name := "scriptParts", fn := fun _ => fun
  | [d1, d2] => { results := [.lit (.bool true)], args := [d1, d2] }
  | _ => none }
def scriptPartsRow : OpenClaim := { program := "ytklkgicjfnbndaagreat", sum := "2ce1baff3df56c8e4a9248a70e3b8233585f851b47ba9e7e39e5c826ab2a5c6e", func := "parquetry/parquetrylaw24.ScriptParts", spec := "scriptParts", inPlace := ["sync/atomic.LoadUint32", "(*internal/sync.Mutex).Lock", "internal/race.Disable", "sync/atomic.CompareAndSwapInt32", "internal/race.Enable", "internal/race.Acquire", "(*internal/sync.Mutex).lockSlow", "internal/sync.runtime_canSpin", "internal/sync.runtime_doSpin", "internal/sync.throw", "internal/sync.runtime_nanotime", "internal/sync.runtime_SemacquireMutex", "sync/atomic.AddInt32", "(*internal/sync.Mutex).Unlock", "internal/race.ReleaseMerge", "(*internal/sync.Mutex).unlockSlow", "internal/sync.fatal", "internal/sync.runtime_Semrelease", "sync/atomic.StoreUint32"], unfollowed := true, recurses := true, plainKeys := false, apart := false }
def ScriptPartsSaid : Prop := scriptPartsRow.holds Tryz.pinned (OpenSpec.ofChange scriptPartsSpec)

/-- ITS FALSE NEIGHBOUR: 'it returns false'. Refute it at one input. -/
def scriptPartsWrong : ChangeSpec := { name := "scriptParts", fn := fun _ => fun
  | [d1, d2] => { results := [.lit (.bool false)], args := [d1, d2] }
  | _ => none }
def ScriptPartsWrongFalsely : Prop := scriptPartsRow.holds Tryz.pinned (OpenSpec.ofChange scriptPartsWrong)

/-- 'parquetrylaw24.ScriptPlays': WHATEVER THE INPUT: true; the input reads as it did. -/
def scriptPlaysSpec : ChangeSpec := { name := "scriptPlays", fn := fun _ => fun
  | [d] => { results := [.lit (.bool true)], args := [d] }
  | _ => none }
def scriptPlaysRow : OpenClaim := { program := "ytklkgicjfnbndaagreat", sum := "2ce1baff3df56c8e4a9248a70e3b8233585f851b47ba9e7e39e5c826ab2a5c6e", func := "parquetry/parquetrylaw24.ScriptPlays", spec := "scriptPlays", inPlace := ["sync/atomic.LoadUint32", "(*internal/sync.Mutex).Lock", "internal/race.Disable", "sync/atomic.CompareAndSwapInt32", "internal/race.Enable", "internal/race.Acquire", "(*internal/sync.Mutex).lockSlow", "internal/sync.runtime_canSpin", "internal/sync.runtime_doSpin", "internal/sync.throw", "internal/sync.runtime_nanotime", "internal/sync.runtime_SemacquireMutex", "sync/atomic.AddInt32", "(*internal/sync.Mutex).Unlock", "internal/race.ReleaseMerge", "(*internal/sync.Mutex).unlockSlow", "internal/sync.fatal", "internal/sync.runtime_Semrelease", "sync/atomic.StoreUint32"], unfollowed := true, recurses := true, plainKeys := false, apart := false }
def ScriptPlaysSaid : Prop := scriptPlaysRow.holds Tryz.pinned (OpenSpec.ofChange scriptPlaysSpec)

/-- ITS FALSE NEIGHBOUR: 'it returns false'. Refute it at one input. -/
def scriptPlaysWrong : ChangeSpec := { name := "scriptPlays", fn := fun _ => fun
  | [d] => { results := [.lit (.bool false)], args := [d] }
  | _ => none }
def ScriptPlaysWrongFalsely : Prop := scriptPlaysRow.holds Tryz.pinned (OpenSpec.ofChange scriptPlaysWrong)

/- THE SECOND FORM. 'bulk': how many values and letters a reading holds, each counted each time it is reached (what is shared counts as often as it is met; a slice's spare places count too). A statement '..UptoSaid' is the law's where the arguments, and the package variables that the reading takes, are together of bulk at most 1048576: NARROWER than '..Said'. Prove '..Said' where nothing that the law and all that it calls make is longer than what came in: it says more and counts as full. Else prove '..UptoSaid'. A law counts once. -/
mutual
def uptoBulk {H : Type} : DataW H → Nat
  | .lit (.string bytes) => bytes.length + 1
  | .lit _ => 1
  | .nil => 1
  | .ptr d => uptoBulk d + 1
  | .slice elems spare => uptoBulkAll elems + uptoBulkAll spare + 1
  | .agg parts => uptoBulkAll parts + 1
  | .iface _ d => uptoBulk d + 1
  | .map entries => uptoBulkEntries entries + 1
  | .held _ => 1
def uptoBulkAll {H : Type} : List (DataW H) → Nat
  | [] => 0
  | d :: r => uptoBulk d + uptoBulkAll r
def uptoBulkEntries {H : Type} : List (Lit × DataW H) → Nat
  | [] => 0
  | x :: r => uptoBulkEntry x + uptoBulkEntries r
def uptoBulkEntry {H : Type} : Lit × DataW H → Nat
  | (.string bytes, d) => bytes.length + uptoBulk d + 1
  | (_, d) => uptoBulk d + 1
 end
def uptoSmall : (H : Type) → List (DataW H) → Bool := fun _ ds => decide (uptoBulkAll ds ≤ 1048576)
def OpenSpec.upto (s : _root_.Go.ChangeSpec) : _root_.Go.OpenSpec := { _root_.Go.OpenSpec.ofChange s with cond := some uptoSmall }

/-- 'parquetrylaw23.GrowFlips', WHERE WHAT IT READS IS OF BULK AT MOST 1048576: true; the input reads as it did. -/
def growFlipsUptoRow : OpenClaim := { program := "ytklkgicjfnbndaagreat", sum := "2ce1baff3df56c8e4a9248a70e3b8233585f851b47ba9e7e39e5c826ab2a5c6e", func := "parquetry/parquetrylaw23.GrowFlips", spec := "growFlips", inPlace := ["sync/atomic.LoadUint32", "(*internal/sync.Mutex).Lock", "internal/race.Disable", "sync/atomic.CompareAndSwapInt32", "internal/race.Enable", "internal/race.Acquire", "(*internal/sync.Mutex).lockSlow", "internal/sync.runtime_canSpin", "internal/sync.runtime_doSpin", "internal/sync.throw", "internal/sync.runtime_nanotime", "internal/sync.runtime_SemacquireMutex", "sync/atomic.AddInt32", "(*internal/sync.Mutex).Unlock", "internal/race.ReleaseMerge", "(*internal/sync.Mutex).unlockSlow", "internal/sync.fatal", "internal/sync.runtime_Semrelease", "sync/atomic.StoreUint32"], unfollowed := true, recurses := true, plainKeys := false, apart := false, narrowed := true }
def GrowFlipsUptoSaid : Prop := growFlipsUptoRow.holds Tryz.pinned (OpenSpec.upto growFlipsSpec)

/-- 'parquetrylaw23.GrowBack', WHERE WHAT IT READS IS OF BULK AT MOST 1048576: true; the input reads as it did. -/
def growBackUptoRow : OpenClaim := { program := "ytklkgicjfnbndaagreat", sum := "2ce1baff3df56c8e4a9248a70e3b8233585f851b47ba9e7e39e5c826ab2a5c6e", func := "parquetry/parquetrylaw23.GrowBack", spec := "growBack", inPlace := ["sync/atomic.LoadUint32", "(*internal/sync.Mutex).Lock", "internal/race.Disable", "sync/atomic.CompareAndSwapInt32", "internal/race.Enable", "internal/race.Acquire", "(*internal/sync.Mutex).lockSlow", "internal/sync.runtime_canSpin", "internal/sync.runtime_doSpin", "internal/sync.throw", "internal/sync.runtime_nanotime", "internal/sync.runtime_SemacquireMutex", "sync/atomic.AddInt32", "(*internal/sync.Mutex).Unlock", "internal/race.ReleaseMerge", "(*internal/sync.Mutex).unlockSlow", "internal/sync.fatal", "internal/sync.runtime_Semrelease", "sync/atomic.StoreUint32"], unfollowed := true, recurses := true, plainKeys := false, apart := false, narrowed := true }
def GrowBackUptoSaid : Prop := growBackUptoRow.holds Tryz.pinned (OpenSpec.upto growBackSpec)

/-- 'parquetrylaw24.ScriptSizes', WHERE WHAT IT READS IS OF BULK AT MOST 1048576: true; the input reads as it did. -/
def scriptSizesUptoRow : OpenClaim := { program := "ytklkgicjfnbndaagreat", sum := "2ce1baff3df56c8e4a9248a70e3b8233585f851b47ba9e7e39e5c826ab2a5c6e", func := "parquetry/parquetrylaw24.ScriptSizes", spec := "scriptSizes", inPlace := ["sync/atomic.LoadUint32", "(*internal/sync.Mutex).Lock", "internal/race.Disable", "sync/atomic.CompareAndSwapInt32", "internal/race.Enable", "internal/race.Acquire", "(*internal/sync.Mutex).lockSlow", "internal/sync.runtime_canSpin", "internal/sync.runtime_doSpin", "internal/sync.throw", "internal/sync.runtime_nanotime", "internal/sync.runtime_SemacquireMutex", "sync/atomic.AddInt32", "(*internal/sync.Mutex).Unlock", "internal/race.ReleaseMerge", "(*internal/sync.Mutex).unlockSlow", "internal/sync.fatal", "internal/sync.runtime_Semrelease", "sync/atomic.StoreUint32"], unfollowed := true, recurses := true, plainKeys := false, apart := false, narrowed := true }
def ScriptSizesUptoSaid : Prop := scriptSizesUptoRow.holds Tryz.pinned (OpenSpec.upto scriptSizesSpec)

/-- 'parquetrylaw24.ScriptNames', WHERE WHAT IT READS IS OF BULK AT MOST 1048576: true; the input reads as it did. -/
def scriptNamesUptoRow : OpenClaim := { program := "ytklkgicjfnbndaagreat", sum := "2ce1baff3df56c8e4a9248a70e3b8233585f851b47ba9e7e39e5c826ab2a5c6e", func := "parquetry/parquetrylaw24.ScriptNames", spec := "scriptNames", inPlace := ["sync/atomic.LoadUint32", "(*internal/sync.Mutex).Lock", "internal/race.Disable", "sync/atomic.CompareAndSwapInt32", "internal/race.Enable", "internal/race.Acquire", "(*internal/sync.Mutex).lockSlow", "internal/sync.runtime_canSpin", "internal/sync.runtime_doSpin", "internal/sync.throw", "internal/sync.runtime_nanotime", "internal/sync.runtime_SemacquireMutex", "sync/atomic.AddInt32", "(*internal/sync.Mutex).Unlock", "internal/race.ReleaseMerge", "(*internal/sync.Mutex).unlockSlow", "internal/sync.fatal", "internal/sync.runtime_Semrelease", "sync/atomic.StoreUint32"], unfollowed := true, recurses := true, plainKeys := false, apart := false, narrowed := true }
def ScriptNamesUptoSaid : Prop := scriptNamesUptoRow.holds Tryz.pinned (OpenSpec.upto scriptNamesSpec)

/-- 'parquetrylaw24.ScriptDoes', WHERE WHAT IT READS IS OF BULK AT MOST 1048576: true; the input reads as it did. -/
def scriptDoesUptoRow : OpenClaim := { program := "ytklkgicjfnbndaagreat", sum := "2ce1baff3df56c8e4a9248a70e3b8233585f851b47ba9e7e39e5c826ab2a5c6e", func := "parquetry/parquetrylaw24.ScriptDoes", spec := "scriptDoes", inPlace := ["sync/atomic.LoadUint32", "(*internal/sync.Mutex).Lock", "internal/race.Disable", "sync/atomic.CompareAndSwapInt32", "internal/race.Enable", "internal/race.Acquire", "(*internal/sync.Mutex).lockSlow", "internal/sync.runtime_canSpin", "internal/sync.runtime_doSpin", "internal/sync.throw", "internal/sync.runtime_nanotime", "internal/sync.runtime_SemacquireMutex", "sync/atomic.AddInt32", "(*internal/sync.Mutex).Unlock", "internal/race.ReleaseMerge", "(*internal/sync.Mutex).unlockSlow", "internal/sync.fatal", "internal/sync.runtime_Semrelease", "sync/atomic.StoreUint32"], unfollowed := true, recurses := true, plainKeys := false, apart := false, narrowed := true }
def ScriptDoesUptoSaid : Prop := scriptDoesUptoRow.holds Tryz.pinned (OpenSpec.upto scriptDoesSpec)

/-- 'parquetrylaw24.ScriptParts', WHERE WHAT IT READS IS OF BULK AT MOST 1048576: true; the input reads as it did. -/
def scriptPartsUptoRow : OpenClaim := { program := "ytklkgicjfnbndaagreat", sum := "2ce1baff3df56c8e4a9248a70e3b8233585f851b47ba9e7e39e5c826ab2a5c6e", func := "parquetry/parquetrylaw24.ScriptParts", spec := "scriptParts", inPlace := ["sync/atomic.LoadUint32", "(*internal/sync.Mutex).Lock", "internal/race.Disable", "sync/atomic.CompareAndSwapInt32", "internal/race.Enable", "internal/race.Acquire", "(*internal/sync.Mutex).lockSlow", "internal/sync.runtime_canSpin", "internal/sync.runtime_doSpin", "internal/sync.throw", "internal/sync.runtime_nanotime", "internal/sync.runtime_SemacquireMutex", "sync/atomic.AddInt32", "(*internal/sync.Mutex).Unlock", "internal/race.ReleaseMerge", "(*internal/sync.Mutex).unlockSlow", "internal/sync.fatal", "internal/sync.runtime_Semrelease", "sync/atomic.StoreUint32"], unfollowed := true, recurses := true, plainKeys := false, apart := false, narrowed := true }
def ScriptPartsUptoSaid : Prop := scriptPartsUptoRow.holds Tryz.pinned (OpenSpec.upto scriptPartsSpec)

/-- 'parquetrylaw24.ScriptPlays', WHERE WHAT IT READS IS OF BULK AT MOST 1048576: true; the input reads as it did. -/
def scriptPlaysUptoRow : OpenClaim := { program := "ytklkgicjfnbndaagreat", sum := "2ce1baff3df56c8e4a9248a70e3b8233585f851b47ba9e7e39e5c826ab2a5c6e", func := "parquetry/parquetrylaw24.ScriptPlays", spec := "scriptPlays", inPlace := ["sync/atomic.LoadUint32", "(*internal/sync.Mutex).Lock", "internal/race.Disable", "sync/atomic.CompareAndSwapInt32", "internal/race.Enable", "internal/race.Acquire", "(*internal/sync.Mutex).lockSlow", "internal/sync.runtime_canSpin", "internal/sync.runtime_doSpin", "internal/sync.throw", "internal/sync.runtime_nanotime", "internal/sync.runtime_SemacquireMutex", "sync/atomic.AddInt32", "(*internal/sync.Mutex).Unlock", "internal/race.ReleaseMerge", "(*internal/sync.Mutex).unlockSlow", "internal/sync.fatal", "internal/sync.runtime_Semrelease", "sync/atomic.StoreUint32"], unfollowed := true, recurses := true, plainKeys := false, apart := false, narrowed := true }
def ScriptPlaysUptoSaid : Prop := scriptPlaysUptoRow.holds Tryz.pinned (OpenSpec.upto scriptPlaysSpec)

end Rows
end Go.Proofs.YtklkgicjfnbndaaGreat
