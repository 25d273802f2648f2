/-
  No cell of these rows narrows 'for every input' (looked for: loops, veiled, ifaces, maps, wideKeys, modest, calm, conditions, laid).
  DERIVED. THE GIVEN ROWS OF THIS SEAT. 12 by the template 'for every input the law returns true; each argument reads behind the call as it read before'; 0 by the template 'total and deterministic' (their statements: YtedocjhbmhllcaaTotals.lean).
  GIVEN WITH THE SEED: the statements are not yours to turn. If you find one false, say at which input.
  Laid BY PROGRAM, IN A SANDBOX (cutbox-rows.mjs): the forced cells as the released guide's own fill.sh prints them over the translation a47476002b790ae2… (all of the seat's roots in one cut). By AI agents, Wed Nov 11 2026. No macro, syntax, notation, axiom, sorry.
-/
import Derived.Test.YtedocjhbmhllcaaChecked
import GoSem.Claim
import GoSem.ClaimJoined
import GoSem.ClaimMapViews
import Derived.JoinedTies
import Derived.KernelRfl
namespace Go.Proofs.Ytedocjhbmhllcaa
/- THE CELL 'sum', in the pinned program and in every row, IS THE sha256 OF THE DUMP (.gsa) THAT YtedocjhbmhllcaaProg.lean LOADS. Nothing in Lean hashes anything: it is a label: what it is worth is what the hold of that sum in a sandbox is worth. -/
noncomputable def Try.pinned : Pinned := { name := "ytedocjhbmhllcaa", sum := "a47476002b790ae231459f64314dfafa6a75d0560f0eb699e0ea3d4063ff87d5", checked := Try.checked }
namespace Rows
def none {H : Type} : Left H := { results := [], args := [] }

/-- 'parquetrylaw06.DartNames': WHATEVER THE INPUT: true; the input reads as it did. -/
def dartNamesSpec : ChangeSpec := { name := "dartNames", fn := fun _ => fun
  | [d1, d2, d3, d4] => { results := [.lit (.bool true)], args := [d1, d2, d3, d4] }
  | _ => none }
def dartNamesRow : OpenClaim := { program := "ytedocjhbmhllcaa", sum := "a47476002b790ae231459f64314dfafa6a75d0560f0eb699e0ea3d4063ff87d5", func := "parquetry/parquetrylaw06.DartNames", spec := "dartNames", inPlace := ["sync/atomic.LoadUint32", "(*internal/sync.Mutex).Lock", "internal/race.Disable", "sync/atomic.CompareAndSwapInt32", "internal/race.Enable", "internal/race.Acquire", "(*internal/sync.Mutex).lockSlow", "internal/sync.runtime_canSpin", "internal/sync.runtime_doSpin", "internal/sync.throw", "internal/sync.runtime_nanotime", "internal/sync.runtime_SemacquireMutex", "sync/atomic.AddInt32", "(*internal/sync.Mutex).Unlock", "internal/race.ReleaseMerge", "(*internal/sync.Mutex).unlockSlow", "internal/sync.fatal", "internal/sync.runtime_Semrelease", "sync/atomic.StoreUint32"], unfollowed := true, recurses := true, plainKeys := false, apart := false }
def DartNamesSaid : Prop := dartNamesRow.holds Try.pinned (OpenSpec.ofChange dartNamesSpec)

/-- ITS FALSE NEIGHBOUR: 'it returns false'. Refute it at one input. -/
def dartNamesWrong : ChangeSpec := { name := "dartNames", fn := fun _ => fun
  | [d1, d2, d3, d4] => { results := [.lit (.bool false)], args := [d1, d2, d3, d4] }
  | _ => none }
def DartNamesWrongFalsely : Prop := dartNamesRow.holds Try.pinned (OpenSpec.ofChange dartNamesWrong)

/-- 'parquetrylaw06.DartMakes': WHATEVER THE INPUT: true; the input reads as it did. -/
def dartMakesSpec : ChangeSpec := { name := "dartMakes", fn := fun _ => fun
  | [d1, d2, d3] => { results := [.lit (.bool true)], args := [d1, d2, d3] }
  | _ => none }
def dartMakesRow : OpenClaim := { program := "ytedocjhbmhllcaa", sum := "a47476002b790ae231459f64314dfafa6a75d0560f0eb699e0ea3d4063ff87d5", func := "parquetry/parquetrylaw06.DartMakes", spec := "dartMakes", inPlace := ["sync/atomic.LoadUint32", "(*internal/sync.Mutex).Lock", "internal/race.Disable", "sync/atomic.CompareAndSwapInt32", "internal/race.Enable", "internal/race.Acquire", "(*internal/sync.Mutex).lockSlow", "internal/sync.runtime_canSpin", "internal/sync.runtime_doSpin", "internal/sync.throw", "internal/sync.runtime_nanotime", "internal/sync.runtime_SemacquireMutex", "sync/atomic.AddInt32", "(*internal/sync.Mutex).Unlock", "internal/race.ReleaseMerge", "(*internal/sync.Mutex).unlockSlow", "internal/sync.fatal", "internal/sync.runtime_Semrelease", "sync/atomic.StoreUint32"], unfollowed := true, recurses := true, plainKeys := false, apart := false }
def DartMakesSaid : Prop := dartMakesRow.holds Try.pinned (OpenSpec.ofChange dartMakesSpec)

/-- ITS FALSE NEIGHBOUR: 'it returns false'. Refute it at one input. -/
def dartMakesWrong : ChangeSpec := { name := "dartMakes", fn := fun _ => fun
  | [d1, d2, d3] => { results := [.lit (.bool false)], args := [d1, d2, d3] }
  | _ => none }
def DartMakesWrongFalsely : Prop := dartMakesRow.holds Try.pinned (OpenSpec.ofChange dartMakesWrong)

/-- 'parquetrylaw06.DartRoots': WHATEVER THE INPUT: true; the input reads as it did. -/
def dartRootsSpec : ChangeSpec := { name := "dartRoots", fn := fun _ => fun
  | [d1, d2, d3, d4, d5, d6, d7, d8, d9] => { results := [.lit (.bool true)], args := [d1, d2, d3, d4, d5, d6, d7, d8, d9] }
  | _ => none }
def dartRootsRow : OpenClaim := { program := "ytedocjhbmhllcaa", sum := "a47476002b790ae231459f64314dfafa6a75d0560f0eb699e0ea3d4063ff87d5", func := "parquetry/parquetrylaw06.DartRoots", spec := "dartRoots", inPlace := ["sync/atomic.LoadUint32", "(*internal/sync.Mutex).Lock", "internal/race.Disable", "sync/atomic.CompareAndSwapInt32", "internal/race.Enable", "internal/race.Acquire", "(*internal/sync.Mutex).lockSlow", "internal/sync.runtime_canSpin", "internal/sync.runtime_doSpin", "internal/sync.throw", "internal/sync.runtime_nanotime", "internal/sync.runtime_SemacquireMutex", "sync/atomic.AddInt32", "(*internal/sync.Mutex).Unlock", "internal/race.ReleaseMerge", "(*internal/sync.Mutex).unlockSlow", "internal/sync.fatal", "internal/sync.runtime_Semrelease", "sync/atomic.StoreUint32"], unfollowed := true, recurses := true, plainKeys := false, apart := false }
def DartRootsSaid : Prop := dartRootsRow.holds Try.pinned (OpenSpec.ofChange dartRootsSpec)

/-- ITS FALSE NEIGHBOUR: 'it returns false'. Refute it at one input. -/
def dartRootsWrong : ChangeSpec := { name := "dartRoots", fn := fun _ => fun
  | [d1, d2, d3, d4, d5, d6, d7, d8, d9] => { results := [.lit (.bool false)], args := [d1, d2, d3, d4, d5, d6, d7, d8, d9] }
  | _ => none }
def DartRootsWrongFalsely : Prop := dartRootsRow.holds Try.pinned (OpenSpec.ofChange dartRootsWrong)

/-- 'parquetrylaw06.DartSums': WHATEVER THE INPUT: true; the input reads as it did. -/
def dartSumsSpec : ChangeSpec := { name := "dartSums", fn := fun _ => fun
  | [d1, d2, d3, d4] => { results := [.lit (.bool true)], args := [d1, d2, d3, d4] }
  | _ => none }
def dartSumsRow : OpenClaim := { program := "ytedocjhbmhllcaa", sum := "a47476002b790ae231459f64314dfafa6a75d0560f0eb699e0ea3d4063ff87d5", func := "parquetry/parquetrylaw06.DartSums", spec := "dartSums", inPlace := ["sync/atomic.LoadUint32", "(*internal/sync.Mutex).Lock", "internal/race.Disable", "sync/atomic.CompareAndSwapInt32", "internal/race.Enable", "internal/race.Acquire", "(*internal/sync.Mutex).lockSlow", "internal/sync.runtime_canSpin", "internal/sync.runtime_doSpin", "internal/sync.throw", "internal/sync.runtime_nanotime", "internal/sync.runtime_SemacquireMutex", "sync/atomic.AddInt32", "(*internal/sync.Mutex).Unlock", "internal/race.ReleaseMerge", "(*internal/sync.Mutex).unlockSlow", "internal/sync.fatal", "internal/sync.runtime_Semrelease", "sync/atomic.StoreUint32"], unfollowed := true, recurses := true, plainKeys := false, apart := false }
def DartSumsSaid : Prop := dartSumsRow.holds Try.pinned (OpenSpec.ofChange dartSumsSpec)

/-- ITS FALSE NEIGHBOUR: 'it returns false'. Refute it at one input. -/
def dartSumsWrong : ChangeSpec := { name := "dartSums", fn := fun _ => fun
  | [d1, d2, d3, d4] => { results := [.lit (.bool false)], args := [d1, d2, d3, d4] }
  | _ => none }
def DartSumsWrongFalsely : Prop := dartSumsRow.holds Try.pinned (OpenSpec.ofChange dartSumsWrong)

/-- 'parquetrylaw06.DartTurns': WHATEVER THE INPUT: true; the input reads as it did. -/
def dartTurnsSpec : ChangeSpec := { name := "dartTurns", fn := fun _ => fun
  | [d1, d2, d3, d4] => { results := [.lit (.bool true)], args := [d1, d2, d3, d4] }
  | _ => none }
def dartTurnsRow : OpenClaim := { program := "ytedocjhbmhllcaa", sum := "a47476002b790ae231459f64314dfafa6a75d0560f0eb699e0ea3d4063ff87d5", func := "parquetry/parquetrylaw06.DartTurns", spec := "dartTurns", inPlace := ["sync/atomic.LoadUint32", "(*internal/sync.Mutex).Lock", "internal/race.Disable", "sync/atomic.CompareAndSwapInt32", "internal/race.Enable", "internal/race.Acquire", "(*internal/sync.Mutex).lockSlow", "internal/sync.runtime_canSpin", "internal/sync.runtime_doSpin", "internal/sync.throw", "internal/sync.runtime_nanotime", "internal/sync.runtime_SemacquireMutex", "sync/atomic.AddInt32", "(*internal/sync.Mutex).Unlock", "internal/race.ReleaseMerge", "(*internal/sync.Mutex).unlockSlow", "internal/sync.fatal", "internal/sync.runtime_Semrelease", "sync/atomic.StoreUint32"], unfollowed := true, recurses := true, plainKeys := false, apart := false }
def DartTurnsSaid : Prop := dartTurnsRow.holds Try.pinned (OpenSpec.ofChange dartTurnsSpec)

/-- ITS FALSE NEIGHBOUR: 'it returns false'. Refute it at one input. -/
def dartTurnsWrong : ChangeSpec := { name := "dartTurns", fn := fun _ => fun
  | [d1, d2, d3, d4] => { results := [.lit (.bool false)], args := [d1, d2, d3, d4] }
  | _ => none }
def DartTurnsWrongFalsely : Prop := dartTurnsRow.holds Try.pinned (OpenSpec.ofChange dartTurnsWrong)

/-- 'parquetrylaw06.DartNil': WHATEVER THE INPUT: true; the input reads as it did. -/
def dartNilSpec : ChangeSpec := { name := "dartNil", fn := fun _ => fun
  | [d] => { results := [.lit (.bool true)], args := [d] }
  | _ => none }
def dartNilRow : OpenClaim := { program := "ytedocjhbmhllcaa", sum := "a47476002b790ae231459f64314dfafa6a75d0560f0eb699e0ea3d4063ff87d5", func := "parquetry/parquetrylaw06.DartNil", spec := "dartNil", inPlace := ["sync/atomic.LoadUint32", "(*internal/sync.Mutex).Lock", "internal/race.Disable", "sync/atomic.CompareAndSwapInt32", "internal/race.Enable", "internal/race.Acquire", "(*internal/sync.Mutex).lockSlow", "internal/sync.runtime_canSpin", "internal/sync.runtime_doSpin", "internal/sync.throw", "internal/sync.runtime_nanotime", "internal/sync.runtime_SemacquireMutex", "sync/atomic.AddInt32", "(*internal/sync.Mutex).Unlock", "internal/race.ReleaseMerge", "(*internal/sync.Mutex).unlockSlow", "internal/sync.fatal", "internal/sync.runtime_Semrelease", "sync/atomic.StoreUint32"], unfollowed := true, recurses := true, plainKeys := false, apart := false }
def DartNilSaid : Prop := dartNilRow.holds Try.pinned (OpenSpec.ofChange dartNilSpec)

/-- ITS FALSE NEIGHBOUR: 'it returns false'. Refute it at one input. -/
def dartNilWrong : ChangeSpec := { name := "dartNil", fn := fun _ => fun
  | [d] => { results := [.lit (.bool false)], args := [d] }
  | _ => none }
def DartNilWrongFalsely : Prop := dartNilRow.holds Try.pinned (OpenSpec.ofChange dartNilWrong)

/-- 'parquetrylaw08.EulerTrees': WHATEVER THE INPUT: true; the input reads as it did. -/
def eulerTreesSpec : ChangeSpec := { name := "eulerTrees", fn := fun _ => fun
  | [d1, d2, d3] => { results := [.lit (.bool true)], args := [d1, d2, d3] }
  | _ => none }
def eulerTreesRow : OpenClaim := { program := "ytedocjhbmhllcaa", sum := "a47476002b790ae231459f64314dfafa6a75d0560f0eb699e0ea3d4063ff87d5", func := "parquetry/parquetrylaw08.EulerTrees", spec := "eulerTrees", inPlace := ["sync/atomic.LoadUint32", "(*internal/sync.Mutex).Lock", "internal/race.Disable", "sync/atomic.CompareAndSwapInt32", "internal/race.Enable", "internal/race.Acquire", "(*internal/sync.Mutex).lockSlow", "internal/sync.runtime_canSpin", "internal/sync.runtime_doSpin", "internal/sync.throw", "internal/sync.runtime_nanotime", "internal/sync.runtime_SemacquireMutex", "sync/atomic.AddInt32", "(*internal/sync.Mutex).Unlock", "internal/race.ReleaseMerge", "(*internal/sync.Mutex).unlockSlow", "internal/sync.fatal", "internal/sync.runtime_Semrelease", "sync/atomic.StoreUint32"], unfollowed := true, recurses := true, plainKeys := false, apart := false }
def EulerTreesSaid : Prop := eulerTreesRow.holds Try.pinned (OpenSpec.ofChange eulerTreesSpec)

/-- ITS FALSE NEIGHBOUR: 'it returns false'. Refute it at one input. -/
def eulerTreesWrong : ChangeSpec := { name := "eulerTrees", fn := fun _ => fun
  | [d1, d2, d3] => { results := [.lit (.bool false)], args := [d1, d2, d3] }
  | _ => none }
def EulerTreesWrongFalsely : Prop := eulerTreesRow.holds Try.pinned (OpenSpec.ofChange eulerTreesWrong)

/-- 'parquetrylaw08.EulerParts': WHATEVER THE INPUT: true; the input reads as it did. -/
def eulerPartsSpec : ChangeSpec := { name := "eulerParts", fn := fun _ => fun
  | [d1, d2, d3] => { results := [.lit (.bool true)], args := [d1, d2, d3] }
  | _ => none }
def eulerPartsRow : OpenClaim := { program := "ytedocjhbmhllcaa", sum := "a47476002b790ae231459f64314dfafa6a75d0560f0eb699e0ea3d4063ff87d5", func := "parquetry/parquetrylaw08.EulerParts", spec := "eulerParts", inPlace := ["sync/atomic.LoadUint32", "(*internal/sync.Mutex).Lock", "internal/race.Disable", "sync/atomic.CompareAndSwapInt32", "internal/race.Enable", "internal/race.Acquire", "(*internal/sync.Mutex).lockSlow", "internal/sync.runtime_canSpin", "internal/sync.runtime_doSpin", "internal/sync.throw", "internal/sync.runtime_nanotime", "internal/sync.runtime_SemacquireMutex", "sync/atomic.AddInt32", "(*internal/sync.Mutex).Unlock", "internal/race.ReleaseMerge", "(*internal/sync.Mutex).unlockSlow", "internal/sync.fatal", "internal/sync.runtime_Semrelease", "sync/atomic.StoreUint32"], unfollowed := true, recurses := true, plainKeys := false, apart := false }
def EulerPartsSaid : Prop := eulerPartsRow.holds Try.pinned (OpenSpec.ofChange eulerPartsSpec)

/-- ITS FALSE NEIGHBOUR: 'it returns false'. Refute it at one input. -/
def eulerPartsWrong : ChangeSpec := { name := "eulerParts", fn := fun _ => fun
  | [d1, d2, d3] => { results := [.lit (.bool false)], args := [d1, d2, d3] }
  | _ => none }
def EulerPartsWrongFalsely : Prop := eulerPartsRow.holds Try.pinned (OpenSpec.ofChange eulerPartsWrong)

/-- 'parquetrylaw08.EulerIs': WHATEVER THE INPUT: true; the input reads as it did. -/
def eulerIsSpec : ChangeSpec := { name := "eulerIs", fn := fun _ => fun
  | [d1, d2, d3] => { results := [.lit (.bool true)], args := [d1, d2, d3] }
  | _ => none }
def eulerIsRow : OpenClaim := { program := "ytedocjhbmhllcaa", sum := "a47476002b790ae231459f64314dfafa6a75d0560f0eb699e0ea3d4063ff87d5", func := "parquetry/parquetrylaw08.EulerIs", spec := "eulerIs", inPlace := ["sync/atomic.LoadUint32", "(*internal/sync.Mutex).Lock", "internal/race.Disable", "sync/atomic.CompareAndSwapInt32", "internal/race.Enable", "internal/race.Acquire", "(*internal/sync.Mutex).lockSlow", "internal/sync.runtime_canSpin", "internal/sync.runtime_doSpin", "internal/sync.throw", "internal/sync.runtime_nanotime", "internal/sync.runtime_SemacquireMutex", "sync/atomic.AddInt32", "(*internal/sync.Mutex).Unlock", "internal/race.ReleaseMerge", "(*internal/sync.Mutex).unlockSlow", "internal/sync.fatal", "internal/sync.runtime_Semrelease", "sync/atomic.StoreUint32"], unfollowed := true, recurses := true, plainKeys := false, apart := false }
def EulerIsSaid : Prop := eulerIsRow.holds Try.pinned (OpenSpec.ofChange eulerIsSpec)

/-- ITS FALSE NEIGHBOUR: 'it returns false'. Refute it at one input. -/
def eulerIsWrong : ChangeSpec := { name := "eulerIs", fn := fun _ => fun
  | [d1, d2, d3] => { results := [.lit (.bool false)], args := [d1, d2, d3] }
  | _ => none }
def EulerIsWrongFalsely : Prop := eulerIsRow.holds Try.pinned (OpenSpec.ofChange eulerIsWrong)

/-- 'parquetrylaw08.EulerNil': WHATEVER THE INPUT: true; the input reads as it did. -/
def eulerNilSpec : ChangeSpec := { name := "eulerNil", fn := fun _ => fun
  | [d] => { results := [.lit (.bool true)], args := [d] }
  | _ => none }
def eulerNilRow : OpenClaim := { program := "ytedocjhbmhllcaa", sum := "a47476002b790ae231459f64314dfafa6a75d0560f0eb699e0ea3d4063ff87d5", func := "parquetry/parquetrylaw08.EulerNil", spec := "eulerNil", inPlace := ["sync/atomic.LoadUint32", "(*internal/sync.Mutex).Lock", "internal/race.Disable", "sync/atomic.CompareAndSwapInt32", "internal/race.Enable", "internal/race.Acquire", "(*internal/sync.Mutex).lockSlow", "internal/sync.runtime_canSpin", "internal/sync.runtime_doSpin", "internal/sync.throw", "internal/sync.runtime_nanotime", "internal/sync.runtime_SemacquireMutex", "sync/atomic.AddInt32", "(*internal/sync.Mutex).Unlock", "internal/race.ReleaseMerge", "(*internal/sync.Mutex).unlockSlow", "internal/sync.fatal", "internal/sync.runtime_Semrelease", "sync/atomic.StoreUint32"], unfollowed := true, recurses := true, plainKeys := false, apart := false }
def EulerNilSaid : Prop := eulerNilRow.holds Try.pinned (OpenSpec.ofChange eulerNilSpec)

/-- ITS FALSE NEIGHBOUR: 'it returns false'. Refute it at one input. -/
def eulerNilWrong : ChangeSpec := { name := "eulerNil", fn := fun _ => fun
  | [d] => { results := [.lit (.bool false)], args := [d] }
  | _ => none }
def EulerNilWrongFalsely : Prop := eulerNilRow.holds Try.pinned (OpenSpec.ofChange eulerNilWrong)

/-- 'parquetrylaw08.EulerWheels': WHATEVER THE INPUT: true; the input reads as it did. -/
def eulerWheelsSpec : ChangeSpec := { name := "eulerWheels", fn := fun _ => fun
  | [d] => { results := [.lit (.bool true)], args := [d] }
  | _ => none }
def eulerWheelsRow : OpenClaim := { program := "ytedocjhbmhllcaa", sum := "a47476002b790ae231459f64314dfafa6a75d0560f0eb699e0ea3d4063ff87d5", func := "parquetry/parquetrylaw08.EulerWheels", spec := "eulerWheels", inPlace := ["sync/atomic.LoadUint32", "(*internal/sync.Mutex).Lock", "internal/race.Disable", "sync/atomic.CompareAndSwapInt32", "internal/race.Enable", "internal/race.Acquire", "(*internal/sync.Mutex).lockSlow", "internal/sync.runtime_canSpin", "internal/sync.runtime_doSpin", "internal/sync.throw", "internal/sync.runtime_nanotime", "internal/sync.runtime_SemacquireMutex", "sync/atomic.AddInt32", "(*internal/sync.Mutex).Unlock", "internal/race.ReleaseMerge", "(*internal/sync.Mutex).unlockSlow", "internal/sync.fatal", "internal/sync.runtime_Semrelease", "sync/atomic.StoreUint32"], unfollowed := true, recurses := true, plainKeys := false, apart := false }
def EulerWheelsSaid : Prop := eulerWheelsRow.holds Try.pinned (OpenSpec.ofChange eulerWheelsSpec)

/-- ITS FALSE NEIGHBOUR: 'it returns false'. Refute it at one input. -/
def eulerWheelsWrong : ChangeSpec := { name := "eulerWheels", fn := fun _ => fun
  | [d] => { results := [.lit (.bool false)], args := [d] }
  | _ => none }
def EulerWheelsWrongFalsely : Prop := eulerWheelsRow.holds Try.pinned (OpenSpec.ofChange eulerWheelsWrong)

/-- 'parquetrylaw08.EulerTurned': WHATEVER THE INPUT: true; the input reads as it did. -/
def eulerTurnedSpec : ChangeSpec := { name := "eulerTurned", fn := fun _ => fun
  | [d1, d2, d3, d4] => { results := [.lit (.bool true)], args := [d1, d2, d3, d4] }
  | _ => none }
def eulerTurnedRow : OpenClaim := { program := "ytedocjhbmhllcaa", sum := "a47476002b790ae231459f64314dfafa6a75d0560f0eb699e0ea3d4063ff87d5", func := "parquetry/parquetrylaw08.EulerTurned", spec := "eulerTurned", inPlace := ["sync/atomic.LoadUint32", "(*internal/sync.Mutex).Lock", "internal/race.Disable", "sync/atomic.CompareAndSwapInt32", "internal/race.Enable", "internal/race.Acquire", "(*internal/sync.Mutex).lockSlow", "internal/sync.runtime_canSpin", "internal/sync.runtime_doSpin", "internal/sync.throw", "internal/sync.runtime_nanotime", "internal/sync.runtime_SemacquireMutex", "sync/atomic.AddInt32", "(*internal/sync.Mutex).Unlock", "internal/race.ReleaseMerge", "(*internal/sync.Mutex).unlockSlow", "internal/sync.fatal", "internal/sync.runtime_Semrelease", "sync/atomic.StoreUint32"], unfollowed := true, recurses := true, plainKeys := false, apart := false }
def EulerTurnedSaid : Prop := eulerTurnedRow.holds Try.pinned (OpenSpec.ofChange eulerTurnedSpec)

/-- ITS FALSE NEIGHBOUR: 'it returns false'. Refute it at one input. -/
def eulerTurnedWrong : ChangeSpec := { name := "eulerTurned", fn := fun _ => fun
  | [d1, d2, d3, d4] => { results := [.lit (.bool false)], args := [d1, d2, d3, d4] }
  | _ => none }
def EulerTurnedWrongFalsely : Prop := eulerTurnedRow.holds Try.pinned (OpenSpec.ofChange eulerTurnedWrong)

/- THE SECOND FORM. 'bulk': how many values and letters a reading holds, each counted each time it is reached (what is shared counts as often as it is met; a slice's spare places count too). A statement '..UptoSaid' is the law's where the arguments, and the package variables that the reading takes, are together of bulk at most 1048576: NARROWER than '..Said'. Prove '..Said' where nothing that the law and all that it calls make is longer than what came in: it says more and counts as full. Else prove '..UptoSaid'. A law counts once. -/
mutual
def uptoBulk {H : Type} : DataW H → Nat
  | .lit (.string bytes) => bytes.length + 1
  | .lit _ => 1
  | .nil => 1
  | .ptr d => uptoBulk d + 1
  | .slice elems spare => uptoBulkAll elems + uptoBulkAll spare + 1
  | .agg parts => uptoBulkAll parts + 1
  | .iface _ d => uptoBulk d + 1
  | .map entries => uptoBulkEntries entries + 1
  | .held _ => 1
def uptoBulkAll {H : Type} : List (DataW H) → Nat
  | [] => 0
  | d :: r => uptoBulk d + uptoBulkAll r
def uptoBulkEntries {H : Type} : List (Lit × DataW H) → Nat
  | [] => 0
  | x :: r => uptoBulkEntry x + uptoBulkEntries r
def uptoBulkEntry {H : Type} : Lit × DataW H → Nat
  | (.string bytes, d) => bytes.length + uptoBulk d + 1
  | (_, d) => uptoBulk d + 1
 end
def uptoSmall : (H : Type) → List (DataW H) → Bool := fun _ ds => decide (uptoBulkAll ds ≤ 1048576)
def OpenSpec.upto (s : _root_.Go.ChangeSpec) : _root_.Go.OpenSpec := { _root_.Go.OpenSpec.ofChange s with cond := some uptoSmall }

/-- 'parquetrylaw06.DartNames', WHERE WHAT IT READS IS OF BULK AT MOST 1048576: true; the input reads as it did. -/
def dartNamesUptoRow : OpenClaim := { program := "ytedocjhbmhllcaa", sum := "a47476002b790ae231459f64314dfafa6a75d0560f0eb699e0ea3d4063ff87d5", func := "parquetry/parquetrylaw06.DartNames", spec := "dartNames", inPlace := ["sync/atomic.LoadUint32", "(*internal/sync.Mutex).Lock", "internal/race.Disable", "sync/atomic.CompareAndSwapInt32", "internal/race.Enable", "internal/race.Acquire", "(*internal/sync.Mutex).lockSlow", "internal/sync.runtime_canSpin", "internal/sync.runtime_doSpin", "internal/sync.throw", "internal/sync.runtime_nanotime", "internal/sync.runtime_SemacquireMutex", "sync/atomic.AddInt32", "(*internal/sync.Mutex).Unlock", "internal/race.ReleaseMerge", "(*internal/sync.Mutex).unlockSlow", "internal/sync.fatal", "internal/sync.runtime_Semrelease", "sync/atomic.StoreUint32"], unfollowed := true, recurses := true, plainKeys := false, apart := false, narrowed := true }
def DartNamesUptoSaid : Prop := dartNamesUptoRow.holds Try.pinned (OpenSpec.upto dartNamesSpec)

/-- 'parquetrylaw06.DartMakes', WHERE WHAT IT READS IS OF BULK AT MOST 1048576: true; the input reads as it did. -/
def dartMakesUptoRow : OpenClaim := { program := "ytedocjhbmhllcaa", sum := "a47476002b790ae231459f64314dfafa6a75d0560f0eb699e0ea3d4063ff87d5", func := "parquetry/parquetrylaw06.DartMakes", spec := "dartMakes", inPlace := ["sync/atomic.LoadUint32", "(*internal/sync.Mutex).Lock", "internal/race.Disable", "sync/atomic.CompareAndSwapInt32", "internal/race.Enable", "internal/race.Acquire", "(*internal/sync.Mutex).lockSlow", "internal/sync.runtime_canSpin", "internal/sync.runtime_doSpin", "internal/sync.throw", "internal/sync.runtime_nanotime", "internal/sync.runtime_SemacquireMutex", "sync/atomic.AddInt32", "(*internal/sync.Mutex).Unlock", "internal/race.ReleaseMerge", "(*internal/sync.Mutex).unlockSlow", "internal/sync.fatal", "internal/sync.runtime_Semrelease", "sync/atomic.StoreUint32"], unfollowed := true, recurses := true, plainKeys := false, apart := false, narrowed := true }
def DartMakesUptoSaid : Prop := dartMakesUptoRow.holds Try.pinned (OpenSpec.upto dartMakesSpec)

/-- 'parquetrylaw06.DartRoots', WHERE WHAT IT READS IS OF BULK AT MOST 1048576: true; the input reads as it did. -/
def dartRootsUptoRow : OpenClaim := { program := "ytedocjhbmhllcaa", sum := "a47476002b790ae231459f64314dfafa6a75d0560f0eb699e0ea3d4063ff87d5", func := "parquetry/parquetrylaw06.DartRoots", spec := "dartRoots", inPlace := ["sync/atomic.LoadUint32", "(*internal/sync.Mutex).Lock", "internal/race.Disable", "sync/atomic.CompareAndSwapInt32", "internal/race.Enable", "internal/race.Acquire", "(*internal/sync.Mutex).lockSlow", "internal/sync.runtime_canSpin", "internal/sync.runtime_doSpin", "internal/sync.throw", "internal/sync.runtime_nanotime", "internal/sync.runtime_SemacquireMutex", "sync/atomic.AddInt32", "(*internal/sync.Mutex).Unlock", "internal/race.ReleaseMerge", "(*internal/sync.Mutex).unlockSlow", "internal/sync.fatal", "internal/sync.runtime_Semrelease", "sync/atomic.StoreUint32"], unfollowed := true, recurses := true, plainKeys := false, apart := false, narrowed := true }
def DartRootsUptoSaid : Prop := dartRootsUptoRow.holds Try.pinned (OpenSpec.upto dartRootsSpec)

/-- 'parquetrylaw06.DartSums', WHERE WHAT IT READS IS OF BULK AT MOST 1048576: true; the input reads as it did. -/
def dartSumsUptoRow : OpenClaim := { program := "ytedocjhbmhllcaa", sum := "a47476002b790ae231459f64314dfafa6a75d0560f0eb699e0ea3d4063ff87d5", func := "parquetry/parquetrylaw06.DartSums", spec := "dartSums", inPlace := ["sync/atomic.LoadUint32", "(*internal/sync.Mutex).Lock", "internal/race.Disable", "sync/atomic.CompareAndSwapInt32", "internal/race.Enable", "internal/race.Acquire", "(*internal/sync.Mutex).lockSlow", "internal/sync.runtime_canSpin", "internal/sync.runtime_doSpin", "internal/sync.throw", "internal/sync.runtime_nanotime", "internal/sync.runtime_SemacquireMutex", "sync/atomic.AddInt32", "(*internal/sync.Mutex).Unlock", "internal/race.ReleaseMerge", "(*internal/sync.Mutex).unlockSlow", "internal/sync.fatal", "internal/sync.runtime_Semrelease", "sync/atomic.StoreUint32"], unfollowed := true, recurses := true, plainKeys := false, apart := false, narrowed := true }
def DartSumsUptoSaid : Prop := dartSumsUptoRow.holds Try.pinned (OpenSpec.upto dartSumsSpec)

/-- 'parquetrylaw06.DartTurns', WHERE WHAT IT READS IS OF BULK AT MOST 1048576: true; the input reads as it did. -/
def dartTurnsUptoRow : OpenClaim := { program := "ytedocjhbmhllcaa", sum := "a47476002b790ae231459f64314dfafa6a75d0560f0eb699e0ea3d4063ff87d5", func := "parquetry/parquetrylaw06.DartTurns", spec := "dartTurns", inPlace := ["sync/atomic.LoadUint32", "(*internal/sync.Mutex).Lock", "internal/race.Disable", "sync/atomic.CompareAndSwapInt32", "internal/race.Enable", "internal/race.Acquire", "(*internal/sync.Mutex).lockSlow", "internal/sync.runtime_canSpin", "internal/sync.runtime_doSpin", "internal/sync.throw", "internal/sync.runtime_nanotime", "internal/sync.runtime_SemacquireMutex", "sync/atomic.AddInt32", "(*internal/sync.Mutex).Unlock", "internal/race.ReleaseMerge", "(*internal/sync.Mutex).unlockSlow", "internal/sync.fatal", "internal/sync.runtime_Semrelease", "sync/atomic.StoreUint32"], unfollowed := true, recurses := true, plainKeys := false, apart := false, narrowed := true }
def DartTurnsUptoSaid : Prop := dartTurnsUptoRow.holds Try.pinned (OpenSpec.upto dartTurnsSpec)

/-- 'parquetrylaw06.DartNil', WHERE WHAT IT READS IS OF BULK AT MOST 1048576: true; the input reads as it did. -/
def dartNilUptoRow : OpenClaim := { program := "ytedocjhbmhllcaa", sum := "a47476002b790ae231459f64314dfafa6a75d0560f0eb699e0ea3d4063ff87d5", func := "parquetry/parquetrylaw06.DartNil", spec := "dartNil", inPlace := ["sync/atomic.LoadUint32", "(*internal/sync.Mutex).Lock", "internal/race.Disable", "sync/atomic.CompareAndSwapInt32", "internal/race.Enable", "internal/race.Acquire", "(*internal/sync.Mutex).lockSlow", "internal/sync.runtime_canSpin", "internal/sync.runtime_doSpin", "internal/sync.throw", "internal/sync.runtime_nanotime", "internal/sync.runtime_SemacquireMutex", "sync/atomic.AddInt32", "(*internal/sync.Mutex).Unlock", "internal/race.ReleaseMerge", "(*internal/sync.Mutex).unlockSlow", "internal/sync.fatal", "internal/sync.runtime_Semrelease", "sync/atomic.StoreUint32"], unfollowed := true, recurses := true, plainKeys := false, apart := false, narrowed := true }
def DartNilUptoSaid : Prop := dartNilUptoRow.holds Try.pinned (OpenSpec.upto dartNilSpec)

/-- 'parquetrylaw08.EulerTrees', WHERE WHAT IT READS IS OF BULK AT MOST 1048576: true; the input reads as it did. -/
def eulerTreesUptoRow : OpenClaim := { program := "ytedocjhbmhllcaa", sum := "a47476002b790ae231459f64314dfafa6a75d0560f0eb699e0ea3d4063ff87d5", func := "parquetry/parquetrylaw08.EulerTrees", spec := "eulerTrees", inPlace := ["sync/atomic.LoadUint32", "(*internal/sync.Mutex).Lock", "internal/race.Disable", "sync/atomic.CompareAndSwapInt32", "internal/race.Enable", "internal/race.Acquire", "(*internal/sync.Mutex).lockSlow", "internal/sync.runtime_canSpin", "internal/sync.runtime_doSpin", "internal/sync.throw", "internal/sync.runtime_nanotime", "internal/sync.runtime_SemacquireMutex", "sync/atomic.AddInt32", "(*internal/sync.Mutex).Unlock", "internal/race.ReleaseMerge", "(*internal/sync.Mutex).unlockSlow", "internal/sync.fatal", "internal/sync.runtime_Semrelease", "sync/atomic.StoreUint32"], unfollowed := true, recurses := true, plainKeys := false, apart := false, narrowed := true }
def EulerTreesUptoSaid : Prop := eulerTreesUptoRow.holds Try.pinned (OpenSpec.upto eulerTreesSpec)

/-- 'parquetrylaw08.EulerParts', WHERE WHAT IT READS IS OF BULK AT MOST 1048576: true; the input reads as it did. -/
def eulerPartsUptoRow : OpenClaim := { program := "ytedocjhbmhllcaa", sum := "a47476002b790ae231459f64314dfafa6a75d0560f0eb699e0ea3d4063ff87d5", func := "parquetry/parquetrylaw08.EulerParts", spec := "eulerParts", inPlace := ["sync/atomic.LoadUint32", "(*internal/sync.Mutex).Lock", "internal/race.Disable", "sync/atomic.CompareAndSwapInt32", "internal/race.Enable", "internal/race.Acquire", "(*internal/sync.Mutex).lockSlow", "internal/sync.runtime_canSpin", "internal/sync.runtime_doSpin", "internal/sync.throw", "internal/sync.runtime_nanotime", "internal/sync.runtime_SemacquireMutex", "sync/atomic.AddInt32", "(*internal/sync.Mutex).Unlock", "internal/race.ReleaseMerge", "(*internal/sync.Mutex).unlockSlow", "internal/sync.fatal", "internal/sync.runtime_Semrelease", "sync/atomic.StoreUint32"], unfollowed := true, recurses := true, plainKeys := false, apart := false, narrowed := true }
def EulerPartsUptoSaid : Prop := eulerPartsUptoRow.holds Try.pinned (OpenSpec.upto eulerPartsSpec)

/-- 'parquetrylaw08.EulerIs', WHERE WHAT IT READS IS OF BULK AT MOST 1048576: true; the input reads as it did. -/
def eulerIsUptoRow : OpenClaim := { program := "ytedocjhbmhllcaa", sum := "a47476002b790ae231459f64314dfafa6a75d0560f0eb699e0ea3d4063ff87d5", func := "parquetry/parquetrylaw08.EulerIs", spec := "eulerIs", inPlace := ["sync/atomic.LoadUint32", "(*internal/sync.Mutex).Lock", "internal/race.Disable", "sync/atomic.CompareAndSwapInt32", "internal/race.Enable", "internal/race.Acquire", "(*internal/sync.Mutex).lockSlow", "internal/sync.runtime_canSpin", "internal/sync.runtime_doSpin", "internal/sync.throw", "internal/sync.runtime_nanotime", "internal/sync.runtime_SemacquireMutex", "sync/atomic.AddInt32", "(*internal/sync.Mutex).Unlock", "internal/race.ReleaseMerge", "(*internal/sync.Mutex).unlockSlow", "internal/sync.fatal", "internal/sync.runtime_Semrelease", "sync/atomic.StoreUint32"], unfollowed := true, recurses := true, plainKeys := false, apart := false, narrowed := true }
def EulerIsUptoSaid : Prop := eulerIsUptoRow.holds Try.pinned (OpenSpec.upto eulerIsSpec)

/-- 'parquetrylaw08.EulerNil', WHERE WHAT IT READS IS OF BULK AT MOST 1048576: true; the input reads as it did. -/
def eulerNilUptoRow : OpenClaim := { program := "ytedocjhbmhllcaa", sum := "a47476002b790ae231459f64314dfafa6a75d0560f0eb699e0ea3d4063ff87d5", func := "parquetry/parquetrylaw08.EulerNil", spec := "eulerNil", inPlace := ["sync/atomic.LoadUint32", "(*internal/sync.Mutex).Lock", "internal/race.Disable", "sync/atomic.CompareAndSwapInt32", "internal/race.Enable", "internal/race.Acquire", "(*internal/sync.Mutex).lockSlow", "internal/sync.runtime_canSpin", "internal/sync.runtime_doSpin", "internal/sync.throw", "internal/sync.runtime_nanotime", "internal/sync.runtime_SemacquireMutex", "sync/atomic.AddInt32", "(*internal/sync.Mutex).Unlock", "internal/race.ReleaseMerge", "(*internal/sync.Mutex).unlockSlow", "internal/sync.fatal", "internal/sync.runtime_Semrelease", "sync/atomic.StoreUint32"], unfollowed := true, recurses := true, plainKeys := false, apart := false, narrowed := true }
def EulerNilUptoSaid : Prop := eulerNilUptoRow.holds Try.pinned (OpenSpec.upto eulerNilSpec)

/-- 'parquetrylaw08.EulerWheels', WHERE WHAT IT READS IS OF BULK AT MOST 1048576: true; the input reads as it did. -/
def eulerWheelsUptoRow : OpenClaim := { program := "ytedocjhbmhllcaa", sum := "a47476002b790ae231459f64314dfafa6a75d0560f0eb699e0ea3d4063ff87d5", func := "parquetry/parquetrylaw08.EulerWheels", spec := "eulerWheels", inPlace := ["sync/atomic.LoadUint32", "(*internal/sync.Mutex).Lock", "internal/race.Disable", "sync/atomic.CompareAndSwapInt32", "internal/race.Enable", "internal/race.Acquire", "(*internal/sync.Mutex).lockSlow", "internal/sync.runtime_canSpin", "internal/sync.runtime_doSpin", "internal/sync.throw", "internal/sync.runtime_nanotime", "internal/sync.runtime_SemacquireMutex", "sync/atomic.AddInt32", "(*internal/sync.Mutex).Unlock", "internal/race.ReleaseMerge", "(*internal/sync.Mutex).unlockSlow", "internal/sync.fatal", "internal/sync.runtime_Semrelease", "sync/atomic.StoreUint32"], unfollowed := true, recurses := true, plainKeys := false, apart := false, narrowed := true }
def EulerWheelsUptoSaid : Prop := eulerWheelsUptoRow.holds Try.pinned (OpenSpec.upto eulerWheelsSpec)

/-- 'parquetrylaw08.EulerTurned', WHERE WHAT IT READS IS OF BULK AT MOST 1048576: true; the input reads as it did. -/
def eulerTurnedUptoRow : OpenClaim := { program := "ytedocjhbmhllcaa", sum := "a47476002b790ae231459f64314dfafa6a75d0560f0eb699e0ea3d4063ff87d5", func := "parquetry/parquetrylaw08.EulerTurned", spec := "eulerTurned", inPlace := ["sync/atomic.LoadUint32", "(*internal/sync.Mutex).Lock", "internal/race.Disable", "sync/atomic.CompareAndSwapInt32", "internal/race.Enable", "internal/race.Acquire", "(*internal/sync.Mutex).lockSlow", "internal/sync.runtime_canSpin", "internal/sync.runtime_doSpin", "internal/sync.throw", "internal/sync.runtime_nanotime", "internal/sync.runtime_SemacquireMutex", "sync/atomic.AddInt32", "(*internal/sync.Mutex).Unlock", "internal/race.ReleaseMerge", "(*internal/sync.Mutex).unlockSlow", "internal/sync.fatal", "internal/sync.runtime_Semrelease", "sync/atomic.StoreUint32"], unfollowed := true, recurses := true, plainKeys := false, apart := false, narrowed := true }
def EulerTurnedUptoSaid : Prop := eulerTurnedUptoRow.holds Try.pinned (OpenSpec.upto eulerTurnedSpec)

end Rows
end Go.Proofs.Ytedocjhbmhllcaa
