/-
  No cell of these rows narrows 'for every input' (looked for: loops, veiled, ifaces, maps, wideKeys, modest, calm, conditions, laid).
  DERIVED. THE GIVEN ROWS OF THIS SEAT. 12 by the template 'for every input the law returns true; each argument reads behind the call as it read before'; 0 by the template 'total and deterministic' (their statements: YtnbecpeiodcohaaTotals.lean).
  GIVEN WITH THE SEED: the statements are not yours to turn. If you find one false, say at which input.
  Laid BY PROGRAM, IN A SANDBOX (cutbox-rows.mjs): the forced cells as the released guide's own fill.sh prints them over the translation d6548ae71e6d556e… (all of the seat's roots in one cut). By AI agents, Wed Nov 11 2026. No macro, syntax, notation, axiom, sorry.
-/
import Derived.Test.YtnbecpeiodcohaaChecked
import GoSem.Claim
import GoSem.ClaimJoined
import GoSem.ClaimMapViews
import Derived.JoinedTies
import Derived.KernelRfl
namespace Go.Proofs.Ytnbecpeiodcohaa
/- THE CELL 'sum', in the pinned program and in every row, IS THE sha256 OF THE DUMP (.gsa) THAT YtnbecpeiodcohaaProg.lean LOADS. Nothing in Lean hashes anything: it is a label: what it is worth is what the hold of that sum in a sandbox is worth. -/
noncomputable def Try.pinned : Pinned := { name := "ytnbecpeiodcohaa", sum := "d6548ae71e6d556e446eeb74fb55c1b2475b7c6ce4107c4c7119db0ff5f006f8", checked := Try.checked }
namespace Rows
def none {H : Type} : Left H := { results := [], args := [] }

/-- 'parquetrylaw09.WalkSides': WHATEVER THE INPUT: true; the input reads as it did. -/
def walkSidesSpec : ChangeSpec := { name := "walkSides", fn := fun _ => fun
  | [d1, d2, d3, d4] => { results := [.lit (.bool true)], args := [d1, d2, d3, d4] }
  | _ => none }
def walkSidesRow : OpenClaim := { program := "ytnbecpeiodcohaa", sum := "d6548ae71e6d556e446eeb74fb55c1b2475b7c6ce4107c4c7119db0ff5f006f8", func := "parquetry/parquetrylaw09.WalkSides", spec := "walkSides", inPlace := ["sync/atomic.LoadUint32", "(*internal/sync.Mutex).Lock", "internal/race.Disable", "sync/atomic.CompareAndSwapInt32", "internal/race.Enable", "internal/race.Acquire", "(*internal/sync.Mutex).lockSlow", "internal/sync.runtime_canSpin", "internal/sync.runtime_doSpin", "internal/sync.throw", "internal/sync.runtime_nanotime", "internal/sync.runtime_SemacquireMutex", "sync/atomic.AddInt32", "(*internal/sync.Mutex).Unlock", "internal/race.ReleaseMerge", "(*internal/sync.Mutex).unlockSlow", "internal/sync.fatal", "internal/sync.runtime_Semrelease", "sync/atomic.StoreUint32", "internal/abi.NoEscape"], unfollowed := true, recurses := true, plainKeys := false, apart := false }
def WalkSidesSaid : Prop := walkSidesRow.holds Try.pinned (OpenSpec.ofChange walkSidesSpec)

/-- ITS FALSE NEIGHBOUR: 'it returns false'. Refute it at one input. -/
def walkSidesWrong : ChangeSpec := { name := "walkSides", fn := fun _ => fun
  | [d1, d2, d3, d4] => { results := [.lit (.bool false)], args := [d1, d2, d3, d4] }
  | _ => none }
def WalkSidesWrongFalsely : Prop := walkSidesRow.holds Try.pinned (OpenSpec.ofChange walkSidesWrong)

/-- 'parquetrylaw09.WalkSteps': WHATEVER THE INPUT: true; the input reads as it did. -/
def walkStepsSpec : ChangeSpec := { name := "walkSteps", fn := fun _ => fun
  | [d1, d2, d3] => { results := [.lit (.bool true)], args := [d1, d2, d3] }
  | _ => none }
def walkStepsRow : OpenClaim := { program := "ytnbecpeiodcohaa", sum := "d6548ae71e6d556e446eeb74fb55c1b2475b7c6ce4107c4c7119db0ff5f006f8", func := "parquetry/parquetrylaw09.WalkSteps", spec := "walkSteps", inPlace := ["sync/atomic.LoadUint32", "(*internal/sync.Mutex).Lock", "internal/race.Disable", "sync/atomic.CompareAndSwapInt32", "internal/race.Enable", "internal/race.Acquire", "(*internal/sync.Mutex).lockSlow", "internal/sync.runtime_canSpin", "internal/sync.runtime_doSpin", "internal/sync.throw", "internal/sync.runtime_nanotime", "internal/sync.runtime_SemacquireMutex", "sync/atomic.AddInt32", "(*internal/sync.Mutex).Unlock", "internal/race.ReleaseMerge", "(*internal/sync.Mutex).unlockSlow", "internal/sync.fatal", "internal/sync.runtime_Semrelease", "sync/atomic.StoreUint32", "internal/abi.NoEscape"], unfollowed := true, recurses := true, plainKeys := false, apart := false }
def WalkStepsSaid : Prop := walkStepsRow.holds Try.pinned (OpenSpec.ofChange walkStepsSpec)

/-- ITS FALSE NEIGHBOUR: 'it returns false'. Refute it at one input. -/
def walkStepsWrong : ChangeSpec := { name := "walkSteps", fn := fun _ => fun
  | [d1, d2, d3] => { results := [.lit (.bool false)], args := [d1, d2, d3] }
  | _ => none }
def WalkStepsWrongFalsely : Prop := walkStepsRow.holds Try.pinned (OpenSpec.ofChange walkStepsWrong)

/-- 'parquetrylaw09.WalkTrees': WHATEVER THE INPUT: true; the input reads as it did. -/
def walkTreesSpec : ChangeSpec := { name := "walkTrees", fn := fun _ => fun
  | [d1, d2, d3] => { results := [.lit (.bool true)], args := [d1, d2, d3] }
  | _ => none }
def walkTreesRow : OpenClaim := { program := "ytnbecpeiodcohaa", sum := "d6548ae71e6d556e446eeb74fb55c1b2475b7c6ce4107c4c7119db0ff5f006f8", func := "parquetry/parquetrylaw09.WalkTrees", spec := "walkTrees", inPlace := ["sync/atomic.LoadUint32", "(*internal/sync.Mutex).Lock", "internal/race.Disable", "sync/atomic.CompareAndSwapInt32", "internal/race.Enable", "internal/race.Acquire", "(*internal/sync.Mutex).lockSlow", "internal/sync.runtime_canSpin", "internal/sync.runtime_doSpin", "internal/sync.throw", "internal/sync.runtime_nanotime", "internal/sync.runtime_SemacquireMutex", "sync/atomic.AddInt32", "(*internal/sync.Mutex).Unlock", "internal/race.ReleaseMerge", "(*internal/sync.Mutex).unlockSlow", "internal/sync.fatal", "internal/sync.runtime_Semrelease", "sync/atomic.StoreUint32", "internal/abi.NoEscape"], unfollowed := true, recurses := true, plainKeys := false, apart := false }
def WalkTreesSaid : Prop := walkTreesRow.holds Try.pinned (OpenSpec.ofChange walkTreesSpec)

/-- ITS FALSE NEIGHBOUR: 'it returns false'. Refute it at one input. -/
def walkTreesWrong : ChangeSpec := { name := "walkTrees", fn := fun _ => fun
  | [d1, d2, d3] => { results := [.lit (.bool false)], args := [d1, d2, d3] }
  | _ => none }
def WalkTreesWrongFalsely : Prop := walkTreesRow.holds Try.pinned (OpenSpec.ofChange walkTreesWrong)

/-- 'parquetrylaw08.EulerTurned': WHATEVER THE INPUT: true; the input reads as it did. -/
def eulerTurnedSpec : ChangeSpec := { name := "eulerTurned", fn := fun _ => fun
  | [d1, d2, d3, d4] => { results := [.lit (.bool true)], args := [d1, d2, d3, d4] }
  | _ => none }
def eulerTurnedRow : OpenClaim := { program := "ytnbecpeiodcohaa", sum := "d6548ae71e6d556e446eeb74fb55c1b2475b7c6ce4107c4c7119db0ff5f006f8", func := "parquetry/parquetrylaw08.EulerTurned", spec := "eulerTurned", inPlace := ["sync/atomic.LoadUint32", "(*internal/sync.Mutex).Lock", "internal/race.Disable", "sync/atomic.CompareAndSwapInt32", "internal/race.Enable", "internal/race.Acquire", "(*internal/sync.Mutex).lockSlow", "internal/sync.runtime_canSpin", "internal/sync.runtime_doSpin", "internal/sync.throw", "internal/sync.runtime_nanotime", "internal/sync.runtime_SemacquireMutex", "sync/atomic.AddInt32", "(*internal/sync.Mutex).Unlock", "internal/race.ReleaseMerge", "(*internal/sync.Mutex).unlockSlow", "internal/sync.fatal", "internal/sync.runtime_Semrelease", "sync/atomic.StoreUint32"], unfollowed := true, recurses := true, plainKeys := false, apart := false }
def EulerTurnedSaid : Prop := eulerTurnedRow.holds Try.pinned (OpenSpec.ofChange eulerTurnedSpec)

/-- ITS FALSE NEIGHBOUR: 'it returns false'. Refute it at one input. -/
def eulerTurnedWrong : ChangeSpec := { name := "eulerTurned", fn := fun _ => fun
  | [d1, d2, d3, d4] => { results := [.lit (.bool false)], args := [d1, d2, d3, d4] }
  | _ => none }
def EulerTurnedWrongFalsely : Prop := eulerTurnedRow.holds Try.pinned (OpenSpec.ofChange eulerTurnedWrong)

/-- 'parquetrylaw09.WalkRight': WHATEVER THE INPUT: true; the input reads as it did. -/
def walkRightSpec : ChangeSpec := { name := "walkRight", fn := fun _ => fun
  | [d1, d2, d3, d4, d5, d6] => { results := [.lit (.bool true)], args := [d1, d2, d3, d4, d5, d6] }
  | _ => none }
def walkRightRow : OpenClaim := { program := "ytnbecpeiodcohaa", sum := "d6548ae71e6d556e446eeb74fb55c1b2475b7c6ce4107c4c7119db0ff5f006f8", func := "parquetry/parquetrylaw09.WalkRight", spec := "walkRight", inPlace := ["sync/atomic.LoadUint32", "(*internal/sync.Mutex).Lock", "internal/race.Disable", "sync/atomic.CompareAndSwapInt32", "internal/race.Enable", "internal/race.Acquire", "(*internal/sync.Mutex).lockSlow", "internal/sync.runtime_canSpin", "internal/sync.runtime_doSpin", "internal/sync.throw", "internal/sync.runtime_nanotime", "internal/sync.runtime_SemacquireMutex", "sync/atomic.AddInt32", "(*internal/sync.Mutex).Unlock", "internal/race.ReleaseMerge", "(*internal/sync.Mutex).unlockSlow", "internal/sync.fatal", "internal/sync.runtime_Semrelease", "sync/atomic.StoreUint32", "internal/abi.NoEscape"], unfollowed := true, recurses := true, plainKeys := false, apart := false }
def WalkRightSaid : Prop := walkRightRow.holds Try.pinned (OpenSpec.ofChange walkRightSpec)

/-- ITS FALSE NEIGHBOUR: 'it returns false'. Refute it at one input. -/
def walkRightWrong : ChangeSpec := { name := "walkRight", fn := fun _ => fun
  | [d1, d2, d3, d4, d5, d6] => { results := [.lit (.bool false)], args := [d1, d2, d3, d4, d5, d6] }
  | _ => none }
def WalkRightWrongFalsely : Prop := walkRightRow.holds Try.pinned (OpenSpec.ofChange walkRightWrong)

/-- 'parquetrylaw10.DualTurns': WHATEVER THE INPUT: true; the input reads as it did. -/
def dualTurnsSpec : ChangeSpec := { name := "dualTurns", fn := fun _ => fun
  | [d1, d2, d3] => { results := [.lit (.bool true)], args := [d1, d2, d3] }
  | _ => none }
def dualTurnsRow : OpenClaim := { program := "ytnbecpeiodcohaa", sum := "d6548ae71e6d556e446eeb74fb55c1b2475b7c6ce4107c4c7119db0ff5f006f8", func := "parquetry/parquetrylaw10.DualTurns", spec := "dualTurns", inPlace := ["sync/atomic.LoadUint32", "(*internal/sync.Mutex).Lock", "internal/race.Disable", "sync/atomic.CompareAndSwapInt32", "internal/race.Enable", "internal/race.Acquire", "(*internal/sync.Mutex).lockSlow", "internal/sync.runtime_canSpin", "internal/sync.runtime_doSpin", "internal/sync.throw", "internal/sync.runtime_nanotime", "internal/sync.runtime_SemacquireMutex", "sync/atomic.AddInt32", "(*internal/sync.Mutex).Unlock", "internal/race.ReleaseMerge", "(*internal/sync.Mutex).unlockSlow", "internal/sync.fatal", "internal/sync.runtime_Semrelease", "sync/atomic.StoreUint32"], unfollowed := true, recurses := true, plainKeys := false, apart := false }
def DualTurnsSaid : Prop := dualTurnsRow.holds Try.pinned (OpenSpec.ofChange dualTurnsSpec)

/-- ITS FALSE NEIGHBOUR: 'it returns false'. Refute it at one input. -/
def dualTurnsWrong : ChangeSpec := { name := "dualTurns", fn := fun _ => fun
  | [d1, d2, d3] => { results := [.lit (.bool false)], args := [d1, d2, d3] }
  | _ => none }
def DualTurnsWrongFalsely : Prop := dualTurnsRow.holds Try.pinned (OpenSpec.ofChange dualTurnsWrong)

/-- 'parquetrylaw09.WalkPlane': WHATEVER THE INPUT: true; the input reads as it did. -/
def walkPlaneSpec : ChangeSpec := { name := "walkPlane", fn := fun _ => fun
  | [d1, d2, d3] => { results := [.lit (.bool true)], args := [d1, d2, d3] }
  | _ => none }
def walkPlaneRow : OpenClaim := { program := "ytnbecpeiodcohaa", sum := "d6548ae71e6d556e446eeb74fb55c1b2475b7c6ce4107c4c7119db0ff5f006f8", func := "parquetry/parquetrylaw09.WalkPlane", spec := "walkPlane", inPlace := ["sync/atomic.LoadUint32", "(*internal/sync.Mutex).Lock", "internal/race.Disable", "sync/atomic.CompareAndSwapInt32", "internal/race.Enable", "internal/race.Acquire", "(*internal/sync.Mutex).lockSlow", "internal/sync.runtime_canSpin", "internal/sync.runtime_doSpin", "internal/sync.throw", "internal/sync.runtime_nanotime", "internal/sync.runtime_SemacquireMutex", "sync/atomic.AddInt32", "(*internal/sync.Mutex).Unlock", "internal/race.ReleaseMerge", "(*internal/sync.Mutex).unlockSlow", "internal/sync.fatal", "internal/sync.runtime_Semrelease", "sync/atomic.StoreUint32", "internal/abi.NoEscape"], unfollowed := true, recurses := true, plainKeys := false, apart := false }
def WalkPlaneSaid : Prop := walkPlaneRow.holds Try.pinned (OpenSpec.ofChange walkPlaneSpec)

/-- ITS FALSE NEIGHBOUR: 'it returns false'. Refute it at one input. -/
def walkPlaneWrong : ChangeSpec := { name := "walkPlane", fn := fun _ => fun
  | [d1, d2, d3] => { results := [.lit (.bool false)], args := [d1, d2, d3] }
  | _ => none }
def WalkPlaneWrongFalsely : Prop := walkPlaneRow.holds Try.pinned (OpenSpec.ofChange walkPlaneWrong)

/-- 'parquetrylaw10.DualNil': WHATEVER THE INPUT: true; the input reads as it did. -/
def dualNilSpec : ChangeSpec := { name := "dualNil", fn := fun _ => fun
  | [d] => { results := [.lit (.bool true)], args := [d] }
  | _ => none }
def dualNilRow : OpenClaim := { program := "ytnbecpeiodcohaa", sum := "d6548ae71e6d556e446eeb74fb55c1b2475b7c6ce4107c4c7119db0ff5f006f8", func := "parquetry/parquetrylaw10.DualNil", spec := "dualNil", inPlace := ["sync/atomic.LoadUint32", "(*internal/sync.Mutex).Lock", "internal/race.Disable", "sync/atomic.CompareAndSwapInt32", "internal/race.Enable", "internal/race.Acquire", "(*internal/sync.Mutex).lockSlow", "internal/sync.runtime_canSpin", "internal/sync.runtime_doSpin", "internal/sync.throw", "internal/sync.runtime_nanotime", "internal/sync.runtime_SemacquireMutex", "sync/atomic.AddInt32", "(*internal/sync.Mutex).Unlock", "internal/race.ReleaseMerge", "(*internal/sync.Mutex).unlockSlow", "internal/sync.fatal", "internal/sync.runtime_Semrelease", "sync/atomic.StoreUint32"], unfollowed := true, recurses := true, plainKeys := false, apart := false }
def DualNilSaid : Prop := dualNilRow.holds Try.pinned (OpenSpec.ofChange dualNilSpec)

/-- ITS FALSE NEIGHBOUR: 'it returns false'. Refute it at one input. -/
def dualNilWrong : ChangeSpec := { name := "dualNil", fn := fun _ => fun
  | [d] => { results := [.lit (.bool false)], args := [d] }
  | _ => none }
def DualNilWrongFalsely : Prop := dualNilRow.holds Try.pinned (OpenSpec.ofChange dualNilWrong)

/-- 'parquetrylaw10.DualCuts': WHATEVER THE INPUT: true; the input reads as it did. -/
def dualCutsSpec : ChangeSpec := { name := "dualCuts", fn := fun _ => fun
  | [d1, d2, d3, d4, d5] => { results := [.lit (.bool true)], args := [d1, d2, d3, d4, d5] }
  | _ => none }
def dualCutsRow : OpenClaim := { program := "ytnbecpeiodcohaa", sum := "d6548ae71e6d556e446eeb74fb55c1b2475b7c6ce4107c4c7119db0ff5f006f8", func := "parquetry/parquetrylaw10.DualCuts", spec := "dualCuts", inPlace := ["sync/atomic.LoadUint32", "(*internal/sync.Mutex).Lock", "internal/race.Disable", "sync/atomic.CompareAndSwapInt32", "internal/race.Enable", "internal/race.Acquire", "(*internal/sync.Mutex).lockSlow", "internal/sync.runtime_canSpin", "internal/sync.runtime_doSpin", "internal/sync.throw", "internal/sync.runtime_nanotime", "internal/sync.runtime_SemacquireMutex", "sync/atomic.AddInt32", "(*internal/sync.Mutex).Unlock", "internal/race.ReleaseMerge", "(*internal/sync.Mutex).unlockSlow", "internal/sync.fatal", "internal/sync.runtime_Semrelease", "sync/atomic.StoreUint32"], unfollowed := true, recurses := true, plainKeys := false, apart := false }
def DualCutsSaid : Prop := dualCutsRow.holds Try.pinned (OpenSpec.ofChange dualCutsSpec)

/-- ITS FALSE NEIGHBOUR: 'it returns false'. Refute it at one input. -/
def dualCutsWrong : ChangeSpec := { name := "dualCuts", fn := fun _ => fun
  | [d1, d2, d3, d4, d5] => { results := [.lit (.bool false)], args := [d1, d2, d3, d4, d5] }
  | _ => none }
def DualCutsWrongFalsely : Prop := dualCutsRow.holds Try.pinned (OpenSpec.ofChange dualCutsWrong)

/-- 'parquetrylaw10.DualApart': WHATEVER THE INPUT: true; the input reads as it did. -/
def dualApartSpec : ChangeSpec := { name := "dualApart", fn := fun _ => fun
  | [d1, d2, d3, d4] => { results := [.lit (.bool true)], args := [d1, d2, d3, d4] }
  | _ => none }
def dualApartRow : OpenClaim := { program := "ytnbecpeiodcohaa", sum := "d6548ae71e6d556e446eeb74fb55c1b2475b7c6ce4107c4c7119db0ff5f006f8", func := "parquetry/parquetrylaw10.DualApart", spec := "dualApart", inPlace := ["sync/atomic.LoadUint32", "(*internal/sync.Mutex).Lock", "internal/race.Disable", "sync/atomic.CompareAndSwapInt32", "internal/race.Enable", "internal/race.Acquire", "(*internal/sync.Mutex).lockSlow", "internal/sync.runtime_canSpin", "internal/sync.runtime_doSpin", "internal/sync.throw", "internal/sync.runtime_nanotime", "internal/sync.runtime_SemacquireMutex", "sync/atomic.AddInt32", "(*internal/sync.Mutex).Unlock", "internal/race.ReleaseMerge", "(*internal/sync.Mutex).unlockSlow", "internal/sync.fatal", "internal/sync.runtime_Semrelease", "sync/atomic.StoreUint32"], unfollowed := true, recurses := true, plainKeys := false, apart := false }
def DualApartSaid : Prop := dualApartRow.holds Try.pinned (OpenSpec.ofChange dualApartSpec)

/-- ITS FALSE NEIGHBOUR: 'it returns false'. Refute it at one input. -/
def dualApartWrong : ChangeSpec := { name := "dualApart", fn := fun _ => fun
  | [d1, d2, d3, d4] => { results := [.lit (.bool false)], args := [d1, d2, d3, d4] }
  | _ => none }
def DualApartWrongFalsely : Prop := dualApartRow.holds Try.pinned (OpenSpec.ofChange dualApartWrong)

/-- 'parquetrylaw10.DualTwice': WHATEVER THE INPUT: true; the input reads as it did. -/
def dualTwiceSpec : ChangeSpec := { name := "dualTwice", fn := fun _ => fun
  | [d1, d2, d3, d4] => { results := [.lit (.bool true)], args := [d1, d2, d3, d4] }
  | _ => none }
def dualTwiceRow : OpenClaim := { program := "ytnbecpeiodcohaa", sum := "d6548ae71e6d556e446eeb74fb55c1b2475b7c6ce4107c4c7119db0ff5f006f8", func := "parquetry/parquetrylaw10.DualTwice", spec := "dualTwice", inPlace := ["sync/atomic.LoadUint32", "(*internal/sync.Mutex).Lock", "internal/race.Disable", "sync/atomic.CompareAndSwapInt32", "internal/race.Enable", "internal/race.Acquire", "(*internal/sync.Mutex).lockSlow", "internal/sync.runtime_canSpin", "internal/sync.runtime_doSpin", "internal/sync.throw", "internal/sync.runtime_nanotime", "internal/sync.runtime_SemacquireMutex", "sync/atomic.AddInt32", "(*internal/sync.Mutex).Unlock", "internal/race.ReleaseMerge", "(*internal/sync.Mutex).unlockSlow", "internal/sync.fatal", "internal/sync.runtime_Semrelease", "sync/atomic.StoreUint32"], unfollowed := true, recurses := true, plainKeys := false, apart := false }
def DualTwiceSaid : Prop := dualTwiceRow.holds Try.pinned (OpenSpec.ofChange dualTwiceSpec)

/-- ITS FALSE NEIGHBOUR: 'it returns false'. Refute it at one input. -/
def dualTwiceWrong : ChangeSpec := { name := "dualTwice", fn := fun _ => fun
  | [d1, d2, d3, d4] => { results := [.lit (.bool false)], args := [d1, d2, d3, d4] }
  | _ => none }
def DualTwiceWrongFalsely : Prop := dualTwiceRow.holds Try.pinned (OpenSpec.ofChange dualTwiceWrong)

/-- 'parquetrylaw10.DualNames': WHATEVER THE INPUT: true; the input reads as it did. -/
def dualNamesSpec : ChangeSpec := { name := "dualNames", fn := fun _ => fun
  | [d1, d2, d3, d4, d5, d6] => { results := [.lit (.bool true)], args := [d1, d2, d3, d4, d5, d6] }
  | _ => none }
def dualNamesRow : OpenClaim := { program := "ytnbecpeiodcohaa", sum := "d6548ae71e6d556e446eeb74fb55c1b2475b7c6ce4107c4c7119db0ff5f006f8", func := "parquetry/parquetrylaw10.DualNames", spec := "dualNames", inPlace := ["sync/atomic.LoadUint32", "(*internal/sync.Mutex).Lock", "internal/race.Disable", "sync/atomic.CompareAndSwapInt32", "internal/race.Enable", "internal/race.Acquire", "(*internal/sync.Mutex).lockSlow", "internal/sync.runtime_canSpin", "internal/sync.runtime_doSpin", "internal/sync.throw", "internal/sync.runtime_nanotime", "internal/sync.runtime_SemacquireMutex", "sync/atomic.AddInt32", "(*internal/sync.Mutex).Unlock", "internal/race.ReleaseMerge", "(*internal/sync.Mutex).unlockSlow", "internal/sync.fatal", "internal/sync.runtime_Semrelease", "sync/atomic.StoreUint32"], unfollowed := true, recurses := true, plainKeys := false, apart := false }
def DualNamesSaid : Prop := dualNamesRow.holds Try.pinned (OpenSpec.ofChange dualNamesSpec)

/-- ITS FALSE NEIGHBOUR: 'it returns false'. Refute it at one input. -/
def dualNamesWrong : ChangeSpec := { name := "dualNames", fn := fun _ => fun
  | [d1, d2, d3, d4, d5, d6] => { results := [.lit (.bool false)], args := [d1, d2, d3, d4, d5, d6] }
  | _ => none }
def DualNamesWrongFalsely : Prop := dualNamesRow.holds Try.pinned (OpenSpec.ofChange dualNamesWrong)

/- THE SECOND FORM. 'bulk': how many values and letters a reading holds, each counted each time it is reached (what is shared counts as often as it is met; a slice's spare places count too). A statement '..UptoSaid' is the law's where the arguments, and the package variables that the reading takes, are together of bulk at most 1048576: NARROWER than '..Said'. Prove '..Said' where nothing that the law and all that it calls make is longer than what came in: it says more and counts as full. Else prove '..UptoSaid'. A law counts once. -/
mutual
def uptoBulk {H : Type} : DataW H → Nat
  | .lit (.string bytes) => bytes.length + 1
  | .lit _ => 1
  | .nil => 1
  | .ptr d => uptoBulk d + 1
  | .slice elems spare => uptoBulkAll elems + uptoBulkAll spare + 1
  | .agg parts => uptoBulkAll parts + 1
  | .iface _ d => uptoBulk d + 1
  | .map entries => uptoBulkEntries entries + 1
  | .held _ => 1
def uptoBulkAll {H : Type} : List (DataW H) → Nat
  | [] => 0
  | d :: r => uptoBulk d + uptoBulkAll r
def uptoBulkEntries {H : Type} : List (Lit × DataW H) → Nat
  | [] => 0
  | x :: r => uptoBulkEntry x + uptoBulkEntries r
def uptoBulkEntry {H : Type} : Lit × DataW H → Nat
  | (.string bytes, d) => bytes.length + uptoBulk d + 1
  | (_, d) => uptoBulk d + 1
 end
def uptoSmall : (H : Type) → List (DataW H) → Bool := fun _ ds => decide (uptoBulkAll ds ≤ 1048576)
def OpenSpec.upto (s : _root_.Go.ChangeSpec) : _root_.Go.OpenSpec := { _root_.Go.OpenSpec.ofChange s with cond := some uptoSmall }

/-- 'parquetrylaw09.WalkSides', WHERE WHAT IT READS IS OF BULK AT MOST 1048576: true; the input reads as it did. -/
def walkSidesUptoRow : OpenClaim := { program := "ytnbecpeiodcohaa", sum := "d6548ae71e6d556e446eeb74fb55c1b2475b7c6ce4107c4c7119db0ff5f006f8", func := "parquetry/parquetrylaw09.WalkSides", spec := "walkSides", inPlace := ["sync/atomic.LoadUint32", "(*internal/sync.Mutex).Lock", "internal/race.Disable", "sync/atomic.CompareAndSwapInt32", "internal/race.Enable", "internal/race.Acquire", "(*internal/sync.Mutex).lockSlow", "internal/sync.runtime_canSpin", "internal/sync.runtime_doSpin", "internal/sync.throw", "internal/sync.runtime_nanotime", "internal/sync.runtime_SemacquireMutex", "sync/atomic.AddInt32", "(*internal/sync.Mutex).Unlock", "internal/race.ReleaseMerge", "(*internal/sync.Mutex).unlockSlow", "internal/sync.fatal", "internal/sync.runtime_Semrelease", "sync/atomic.StoreUint32", "internal/abi.NoEscape"], unfollowed := true, recurses := true, plainKeys := false, apart := false, narrowed := true }
def WalkSidesUptoSaid : Prop := walkSidesUptoRow.holds Try.pinned (OpenSpec.upto walkSidesSpec)

/-- 'parquetrylaw09.WalkSteps', WHERE WHAT IT READS IS OF BULK AT MOST 1048576: true; the input reads as it did. -/
def walkStepsUptoRow : OpenClaim := { program := "ytnbecpeiodcohaa", sum := "d6548ae71e6d556e446eeb74fb55c1b2475b7c6ce4107c4c7119db0ff5f006f8", func := "parquetry/parquetrylaw09.WalkSteps", spec := "walkSteps", inPlace := ["sync/atomic.LoadUint32", "(*internal/sync.Mutex).Lock", "internal/race.Disable", "sync/atomic.CompareAndSwapInt32", "internal/race.Enable", "internal/race.Acquire", "(*internal/sync.Mutex).lockSlow", "internal/sync.runtime_canSpin", "internal/sync.runtime_doSpin", "internal/sync.throw", "internal/sync.runtime_nanotime", "internal/sync.runtime_SemacquireMutex", "sync/atomic.AddInt32", "(*internal/sync.Mutex).Unlock", "internal/race.ReleaseMerge", "(*internal/sync.Mutex).unlockSlow", "internal/sync.fatal", "internal/sync.runtime_Semrelease", "sync/atomic.StoreUint32", "internal/abi.NoEscape"], unfollowed := true, recurses := true, plainKeys := false, apart := false, narrowed := true }
def WalkStepsUptoSaid : Prop := walkStepsUptoRow.holds Try.pinned (OpenSpec.upto walkStepsSpec)

/-- 'parquetrylaw09.WalkTrees', WHERE WHAT IT READS IS OF BULK AT MOST 1048576: true; the input reads as it did. -/
def walkTreesUptoRow : OpenClaim := { program := "ytnbecpeiodcohaa", sum := "d6548ae71e6d556e446eeb74fb55c1b2475b7c6ce4107c4c7119db0ff5f006f8", func := "parquetry/parquetrylaw09.WalkTrees", spec := "walkTrees", inPlace := ["sync/atomic.LoadUint32", "(*internal/sync.Mutex).Lock", "internal/race.Disable", "sync/atomic.CompareAndSwapInt32", "internal/race.Enable", "internal/race.Acquire", "(*internal/sync.Mutex).lockSlow", "internal/sync.runtime_canSpin", "internal/sync.runtime_doSpin", "internal/sync.throw", "internal/sync.runtime_nanotime", "internal/sync.runtime_SemacquireMutex", "sync/atomic.AddInt32", "(*internal/sync.Mutex).Unlock", "internal/race.ReleaseMerge", "(*internal/sync.Mutex).unlockSlow", "internal/sync.fatal", "internal/sync.runtime_Semrelease", "sync/atomic.StoreUint32", "internal/abi.NoEscape"], unfollowed := true, recurses := true, plainKeys := false, apart := false, narrowed := true }
def WalkTreesUptoSaid : Prop := walkTreesUptoRow.holds Try.pinned (OpenSpec.upto walkTreesSpec)

/-- 'parquetrylaw08.EulerTurned', WHERE WHAT IT READS IS OF BULK AT MOST 1048576: true; the input reads as it did. -/
def eulerTurnedUptoRow : OpenClaim := { program := "ytnbecpeiodcohaa", sum := "d6548ae71e6d556e446eeb74fb55c1b2475b7c6ce4107c4c7119db0ff5f006f8", func := "parquetry/parquetrylaw08.EulerTurned", spec := "eulerTurned", inPlace := ["sync/atomic.LoadUint32", "(*internal/sync.Mutex).Lock", "internal/race.Disable", "sync/atomic.CompareAndSwapInt32", "internal/race.Enable", "internal/race.Acquire", "(*internal/sync.Mutex).lockSlow", "internal/sync.runtime_canSpin", "internal/sync.runtime_doSpin", "internal/sync.throw", "internal/sync.runtime_nanotime", "internal/sync.runtime_SemacquireMutex", "sync/atomic.AddInt32", "(*internal/sync.Mutex).Unlock", "internal/race.ReleaseMerge", "(*internal/sync.Mutex).unlockSlow", "internal/sync.fatal", "internal/sync.runtime_Semrelease", "sync/atomic.StoreUint32"], unfollowed := true, recurses := true, plainKeys := false, apart := false, narrowed := true }
def EulerTurnedUptoSaid : Prop := eulerTurnedUptoRow.holds Try.pinned (OpenSpec.upto eulerTurnedSpec)

/-- 'parquetrylaw09.WalkRight', WHERE WHAT IT READS IS OF BULK AT MOST 1048576: true; the input reads as it did. -/
def walkRightUptoRow : OpenClaim := { program := "ytnbecpeiodcohaa", sum := "d6548ae71e6d556e446eeb74fb55c1b2475b7c6ce4107c4c7119db0ff5f006f8", func := "parquetry/parquetrylaw09.WalkRight", spec := "walkRight", inPlace := ["sync/atomic.LoadUint32", "(*internal/sync.Mutex).Lock", "internal/race.Disable", "sync/atomic.CompareAndSwapInt32", "internal/race.Enable", "internal/race.Acquire", "(*internal/sync.Mutex).lockSlow", "internal/sync.runtime_canSpin", "internal/sync.runtime_doSpin", "internal/sync.throw", "internal/sync.runtime_nanotime", "internal/sync.runtime_SemacquireMutex", "sync/atomic.AddInt32", "(*internal/sync.Mutex).Unlock", "internal/race.ReleaseMerge", "(*internal/sync.Mutex).unlockSlow", "internal/sync.fatal", "internal/sync.runtime_Semrelease", "sync/atomic.StoreUint32", "internal/abi.NoEscape"], unfollowed := true, recurses := true, plainKeys := false, apart := false, narrowed := true }
def WalkRightUptoSaid : Prop := walkRightUptoRow.holds Try.pinned (OpenSpec.upto walkRightSpec)

/-- 'parquetrylaw10.DualTurns', WHERE WHAT IT READS IS OF BULK AT MOST 1048576: true; the input reads as it did. -/
def dualTurnsUptoRow : OpenClaim := { program := "ytnbecpeiodcohaa", sum := "d6548ae71e6d556e446eeb74fb55c1b2475b7c6ce4107c4c7119db0ff5f006f8", func := "parquetry/parquetrylaw10.DualTurns", spec := "dualTurns", inPlace := ["sync/atomic.LoadUint32", "(*internal/sync.Mutex).Lock", "internal/race.Disable", "sync/atomic.CompareAndSwapInt32", "internal/race.Enable", "internal/race.Acquire", "(*internal/sync.Mutex).lockSlow", "internal/sync.runtime_canSpin", "internal/sync.runtime_doSpin", "internal/sync.throw", "internal/sync.runtime_nanotime", "internal/sync.runtime_SemacquireMutex", "sync/atomic.AddInt32", "(*internal/sync.Mutex).Unlock", "internal/race.ReleaseMerge", "(*internal/sync.Mutex).unlockSlow", "internal/sync.fatal", "internal/sync.runtime_Semrelease", "sync/atomic.StoreUint32"], unfollowed := true, recurses := true, plainKeys := false, apart := false, narrowed := true }
def DualTurnsUptoSaid : Prop := dualTurnsUptoRow.holds Try.pinned (OpenSpec.upto dualTurnsSpec)

/-- 'parquetrylaw09.WalkPlane', WHERE WHAT IT READS IS OF BULK AT MOST 1048576: true; the input reads as it did. -/
def walkPlaneUptoRow : OpenClaim := { program := "ytnbecpeiodcohaa", sum := "d6548ae71e6d556e446eeb74fb55c1b2475b7c6ce4107c4c7119db0ff5f006f8", func := "parquetry/parquetrylaw09.WalkPlane", spec := "walkPlane", inPlace := ["sync/atomic.LoadUint32", "(*internal/sync.Mutex).Lock", "internal/race.Disable", "sync/atomic.CompareAndSwapInt32", "internal/race.Enable", "internal/race.Acquire", "(*internal/sync.Mutex).lockSlow", "internal/sync.runtime_canSpin", "internal/sync.runtime_doSpin", "internal/sync.throw", "internal/sync.runtime_nanotime", "internal/sync.runtime_SemacquireMutex", "sync/atomic.AddInt32", "(*internal/sync.Mutex).Unlock", "internal/race.ReleaseMerge", "(*internal/sync.Mutex).unlockSlow", "internal/sync.fatal", "internal/sync.runtime_Semrelease", "sync/atomic.StoreUint32", "internal/abi.NoEscape"], unfollowed := true, recurses := true, plainKeys := false, apart := false, narrowed := true }
def WalkPlaneUptoSaid : Prop := walkPlaneUptoRow.holds Try.pinned (OpenSpec.upto walkPlaneSpec)

/-- 'parquetrylaw10.DualNil', WHERE WHAT IT READS IS OF BULK AT MOST 1048576: true; the input reads as it did. -/
def dualNilUptoRow : OpenClaim := { program := "ytnbecpeiodcohaa", sum := "d6548ae71e6d556e446eeb74fb55c1b2475b7c6ce4107c4c7119db0ff5f006f8", func := "parquetry/parquetrylaw10.DualNil", spec := "dualNil", inPlace := ["sync/atomic.LoadUint32", "(*internal/sync.Mutex).Lock", "internal/race.Disable", "sync/atomic.CompareAndSwapInt32", "internal/race.Enable", "internal/race.Acquire", "(*internal/sync.Mutex).lockSlow", "internal/sync.runtime_canSpin", "internal/sync.runtime_doSpin", "internal/sync.throw", "internal/sync.runtime_nanotime", "internal/sync.runtime_SemacquireMutex", "sync/atomic.AddInt32", "(*internal/sync.Mutex).Unlock", "internal/race.ReleaseMerge", "(*internal/sync.Mutex).unlockSlow", "internal/sync.fatal", "internal/sync.runtime_Semrelease", "sync/atomic.StoreUint32"], unfollowed := true, recurses := true, plainKeys := false, apart := false, narrowed := true }
def DualNilUptoSaid : Prop := dualNilUptoRow.holds Try.pinned (OpenSpec.upto dualNilSpec)

/-- 'parquetrylaw10.DualCuts', WHERE WHAT IT READS IS OF BULK AT MOST 1048576: true; the input reads as it did. -/
def dualCutsUptoRow : OpenClaim := { program := "ytnbecpeiodcohaa", sum := "d6548ae71e6d556e446eeb74fb55c1b2475b7c6ce4107c4c7119db0ff5f006f8", func := "parquetry/parquetrylaw10.DualCuts", spec := "dualCuts", inPlace := ["sync/atomic.LoadUint32", "(*internal/sync.Mutex).Lock", "internal/race.Disable", "sync/atomic.CompareAndSwapInt32", "internal/race.Enable", "internal/race.Acquire", "(*internal/sync.Mutex).lockSlow", "internal/sync.runtime_canSpin", "internal/sync.runtime_doSpin", "internal/sync.throw", "internal/sync.runtime_nanotime", "internal/sync.runtime_SemacquireMutex", "sync/atomic.AddInt32", "(*internal/sync.Mutex).Unlock", "internal/race.ReleaseMerge", "(*internal/sync.Mutex).unlockSlow", "internal/sync.fatal", "internal/sync.runtime_Semrelease", "sync/atomic.StoreUint32"], unfollowed := true, recurses := true, plainKeys := false, apart := false, narrowed := true }
def DualCutsUptoSaid : Prop := dualCutsUptoRow.holds Try.pinned (OpenSpec.upto dualCutsSpec)

/-- 'parquetrylaw10.DualApart', WHERE WHAT IT READS IS OF BULK AT MOST 1048576: true; the input reads as it did. -/
def dualApartUptoRow : OpenClaim := { program := "ytnbecpeiodcohaa", sum := "d6548ae71e6d556e446eeb74fb55c1b2475b7c6ce4107c4c7119db0ff5f006f8", func := "parquetry/parquetrylaw10.DualApart", spec := "dualApart", inPlace := ["sync/atomic.LoadUint32", "(*internal/sync.Mutex).Lock", "internal/race.Disable", "sync/atomic.CompareAndSwapInt32", "internal/race.Enable", "internal/race.Acquire", "(*internal/sync.Mutex).lockSlow", "internal/sync.runtime_canSpin", "internal/sync.runtime_doSpin", "internal/sync.throw", "internal/sync.runtime_nanotime", "internal/sync.runtime_SemacquireMutex", "sync/atomic.AddInt32", "(*internal/sync.Mutex).Unlock", "internal/race.ReleaseMerge", "(*internal/sync.Mutex).unlockSlow", "internal/sync.fatal", "internal/sync.runtime_Semrelease", "sync/atomic.StoreUint32"], unfollowed := true, recurses := true, plainKeys := false, apart := false, narrowed := true }
def DualApartUptoSaid : Prop := dualApartUptoRow.holds Try.pinned (OpenSpec.upto dualApartSpec)

/-- 'parquetrylaw10.DualTwice', WHERE WHAT IT READS IS OF BULK AT MOST 1048576: true; the input reads as it did. -/
def dualTwiceUptoRow : OpenClaim := { program := "ytnbecpeiodcohaa", sum := "d6548ae71e6d556e446eeb74fb55c1b2475b7c6ce4107c4c7119db0ff5f006f8", func := "parquetry/parquetrylaw10.DualTwice", spec := "dualTwice", inPlace := ["sync/atomic.LoadUint32", "(*internal/sync.Mutex).Lock", "internal/race.Disable", "sync/atomic.CompareAndSwapInt32", "internal/race.Enable", "internal/race.Acquire", "(*internal/sync.Mutex).lockSlow", "internal/sync.runtime_canSpin", "internal/sync.runtime_doSpin", "internal/sync.throw", "internal/sync.runtime_nanotime", "internal/sync.runtime_SemacquireMutex", "sync/atomic.AddInt32", "(*internal/sync.Mutex).Unlock", "internal/race.ReleaseMerge", "(*internal/sync.Mutex).unlockSlow", "internal/sync.fatal", "internal/sync.runtime_Semrelease", "sync/atomic.StoreUint32"], unfollowed := true, recurses := true, plainKeys := false, apart := false, narrowed := true }
def DualTwiceUptoSaid : Prop := dualTwiceUptoRow.holds Try.pinned (OpenSpec.upto dualTwiceSpec)

/-- 'parquetrylaw10.DualNames', WHERE WHAT IT READS IS OF BULK AT MOST 1048576: true; the input reads as it did. -/
def dualNamesUptoRow : OpenClaim := { program := "ytnbecpeiodcohaa", sum := "d6548ae71e6d556e446eeb74fb55c1b2475b7c6ce4107c4c7119db0ff5f006f8", func := "parquetry/parquetrylaw10.DualNames", spec := "dualNames", inPlace := ["sync/atomic.LoadUint32", "(*internal/sync.Mutex).Lock", "internal/race.Disable", "sync/atomic.CompareAndSwapInt32", "internal/race.Enable", "internal/race.Acquire", "(*internal/sync.Mutex).lockSlow", "internal/sync.runtime_canSpin", "internal/sync.runtime_doSpin", "internal/sync.throw", "internal/sync.runtime_nanotime", "internal/sync.runtime_SemacquireMutex", "sync/atomic.AddInt32", "(*internal/sync.Mutex).Unlock", "internal/race.ReleaseMerge", "(*internal/sync.Mutex).unlockSlow", "internal/sync.fatal", "internal/sync.runtime_Semrelease", "sync/atomic.StoreUint32"], unfollowed := true, recurses := true, plainKeys := false, apart := false, narrowed := true }
def DualNamesUptoSaid : Prop := dualNamesUptoRow.holds Try.pinned (OpenSpec.upto dualNamesSpec)

end Rows
end Go.Proofs.Ytnbecpeiodcohaa
