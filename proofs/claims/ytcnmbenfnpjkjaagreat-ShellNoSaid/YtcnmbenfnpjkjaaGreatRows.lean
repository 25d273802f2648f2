/-
  No cell of these rows narrows 'for every input' (looked for: loops, veiled, ifaces, maps, wideKeys, modest, calm, conditions, laid).
  DERIVED. THE GIVEN ROWS OF THIS SEAT. 5 by the template 'for every input the law returns true; each argument reads behind the call as it read before'; 0 by the template 'total and deterministic' (their statements: YtcnmbenfnpjkjaaGreatTotals.lean).
  GIVEN WITH THE SEED: the statements are not yours to turn. If you find one false, say at which input.
  Laid BY PROGRAM, IN A SANDBOX (cutbox-rows.mjs): the forced cells as the released guide's own fill.sh prints them over the translation 4af4494f4e8941c6… (all of the seat's roots in one cut). By AI agents, Wed Nov 11 2026. No macro, syntax, notation, axiom, sorry.
-/
import Derived.Test.YtcnmbenfnpjkjaaGreatChecked
import GoSem.Claim
import GoSem.ClaimJoined
import GoSem.ClaimMapViews
import Derived.JoinedTies
import Derived.KernelRfl
namespace Go.Proofs.YtcnmbenfnpjkjaaGreat
/- THE CELL 'sum', in the pinned program and in every row, IS THE sha256 OF THE DUMP (.gsa) THAT YtcnmbenfnpjkjaaGreatProg.lean LOADS. Nothing in Lean hashes anything: it is a label: what it is worth is what the hold of that sum in a sandbox is worth. -/
noncomputable def Tryz.pinned : Pinned := { name := "ytcnmbenfnpjkjaagreat", sum := "4af4494f4e8941c66b77eb9b22aa28209d7a134c32c3ee396312f5aa26c6fefb", checked := Tryz.checked }
namespace Rows
def none {H : Type} : Left H := { results := [], args := [] }

/-- 'parquetrylaw14.ShellOrders': WHATEVER THE INPUT: true; the input reads as it did. -/
def shellOrdersSpec : ChangeSpec := { name := "shellOrders", fn := fun _ => fun
  | [d1, d2, d3] => { results := [.lit (.bool true)], args := [d1, d2, d3] }
  | _ => none }
def shellOrdersRow : OpenClaim := { program := "ytcnmbenfnpjkjaagreat", sum := "4af4494f4e8941c66b77eb9b22aa28209d7a134c32c3ee396312f5aa26c6fefb", func := "parquetry/parquetrylaw14.ShellOrders", spec := "shellOrders", inPlace := ["sync/atomic.LoadUint32", "(*internal/sync.Mutex).Lock", "internal/race.Disable", "sync/atomic.CompareAndSwapInt32", "internal/race.Enable", "internal/race.Acquire", "(*internal/sync.Mutex).lockSlow", "internal/sync.runtime_canSpin", "internal/sync.runtime_doSpin", "internal/sync.throw", "internal/sync.runtime_nanotime", "internal/sync.runtime_SemacquireMutex", "sync/atomic.AddInt32", "(*internal/sync.Mutex).Unlock", "internal/race.ReleaseMerge", "(*internal/sync.Mutex).unlockSlow", "internal/sync.fatal", "internal/sync.runtime_Semrelease", "sync/atomic.StoreUint32", "slices.overlaps[int]"], unfollowed := true, recurses := true, plainKeys := false, apart := false }
def ShellOrdersSaid : Prop := shellOrdersRow.holds Tryz.pinned (OpenSpec.ofChange shellOrdersSpec)

/-- ITS FALSE NEIGHBOUR: 'it returns false'. Refute it at one input. -/
def shellOrdersWrong : ChangeSpec := { name := "shellOrders", fn := fun _ => fun
  | [d1, d2, d3] => { results := [.lit (.bool false)], args := [d1, d2, d3] }
  | _ => none }
def ShellOrdersWrongFalsely : Prop := shellOrdersRow.holds Tryz.pinned (OpenSpec.ofChange shellOrdersWrong)

/-- 'parquetrylaw14.ShellNo': WHATEVER THE INPUT: true; the input reads as it did. -/
def shellNoSpec : ChangeSpec := { name := "shellNo", fn := fun _ => fun
  | [d1, d2, d3, d4] => { results := [.lit (.bool true)], args := [d1, d2, d3, d4] }
  | _ => none }
def shellNoRow : OpenClaim := { program := "ytcnmbenfnpjkjaagreat", sum := "4af4494f4e8941c66b77eb9b22aa28209d7a134c32c3ee396312f5aa26c6fefb", func := "parquetry/parquetrylaw14.ShellNo", spec := "shellNo", inPlace := ["sync/atomic.LoadUint32", "(*internal/sync.Mutex).Lock", "internal/race.Disable", "sync/atomic.CompareAndSwapInt32", "internal/race.Enable", "internal/race.Acquire", "(*internal/sync.Mutex).lockSlow", "internal/sync.runtime_canSpin", "internal/sync.runtime_doSpin", "internal/sync.throw", "internal/sync.runtime_nanotime", "internal/sync.runtime_SemacquireMutex", "sync/atomic.AddInt32", "(*internal/sync.Mutex).Unlock", "internal/race.ReleaseMerge", "(*internal/sync.Mutex).unlockSlow", "internal/sync.fatal", "internal/sync.runtime_Semrelease", "sync/atomic.StoreUint32", "slices.overlaps[int]"], unfollowed := true, recurses := true, plainKeys := false, apart := false }
def ShellNoSaid : Prop := shellNoRow.holds Tryz.pinned (OpenSpec.ofChange shellNoSpec)

/-- ITS FALSE NEIGHBOUR: 'it returns false'. Refute it at one input. -/
def shellNoWrong : ChangeSpec := { name := "shellNo", fn := fun _ => fun
  | [d1, d2, d3, d4] => { results := [.lit (.bool false)], args := [d1, d2, d3, d4] }
  | _ => none }
def ShellNoWrongFalsely : Prop := shellNoRow.holds Tryz.pinned (OpenSpec.ofChange shellNoWrong)

/-- 'parquetrylaw15.WoodPaths': WHATEVER THE INPUT: true; the input reads as it did. -/
def woodPathsSpec : ChangeSpec := { name := "woodPaths", fn := fun _ => fun
  | [d1, d2, d3, d4] => { results := [.lit (.bool true)], args := [d1, d2, d3, d4] }
  | _ => none }
def woodPathsRow : OpenClaim := { program := "ytcnmbenfnpjkjaagreat", sum := "4af4494f4e8941c66b77eb9b22aa28209d7a134c32c3ee396312f5aa26c6fefb", func := "parquetry/parquetrylaw15.WoodPaths", spec := "woodPaths", inPlace := ["sync/atomic.LoadUint32", "(*internal/sync.Mutex).Lock", "internal/race.Disable", "sync/atomic.CompareAndSwapInt32", "internal/race.Enable", "internal/race.Acquire", "(*internal/sync.Mutex).lockSlow", "internal/sync.runtime_canSpin", "internal/sync.runtime_doSpin", "internal/sync.throw", "internal/sync.runtime_nanotime", "internal/sync.runtime_SemacquireMutex", "sync/atomic.AddInt32", "(*internal/sync.Mutex).Unlock", "internal/race.ReleaseMerge", "(*internal/sync.Mutex).unlockSlow", "internal/sync.fatal", "internal/sync.runtime_Semrelease", "sync/atomic.StoreUint32", "slices.overlaps[int]"], unfollowed := true, recurses := true, plainKeys := false, apart := false }
def WoodPathsSaid : Prop := woodPathsRow.holds Tryz.pinned (OpenSpec.ofChange woodPathsSpec)

/-- ITS FALSE NEIGHBOUR: 'it returns false'. Refute it at one input. -/
def woodPathsWrong : ChangeSpec := { name := "woodPaths", fn := fun _ => fun
  | [d1, d2, d3, d4] => { results := [.lit (.bool false)], args := [d1, d2, d3, d4] }
  | _ => none }
def WoodPathsWrongFalsely : Prop := woodPathsRow.holds Tryz.pinned (OpenSpec.ofChange woodPathsWrong)

/-- 'parquetrylaw15.WoodCounts': WHATEVER THE INPUT: true; the input reads as it did. -/
def woodCountsSpec : ChangeSpec := { name := "woodCounts", fn := fun _ => fun
  | [d1, d2, d3] => { results := [.lit (.bool true)], args := [d1, d2, d3] }
  | _ => none }
def woodCountsRow : OpenClaim := { program := "ytcnmbenfnpjkjaagreat", sum := "4af4494f4e8941c66b77eb9b22aa28209d7a134c32c3ee396312f5aa26c6fefb", func := "parquetry/parquetrylaw15.WoodCounts", spec := "woodCounts", inPlace := ["sync/atomic.LoadUint32", "(*internal/sync.Mutex).Lock", "internal/race.Disable", "sync/atomic.CompareAndSwapInt32", "internal/race.Enable", "internal/race.Acquire", "(*internal/sync.Mutex).lockSlow", "internal/sync.runtime_canSpin", "internal/sync.runtime_doSpin", "internal/sync.throw", "internal/sync.runtime_nanotime", "internal/sync.runtime_SemacquireMutex", "sync/atomic.AddInt32", "(*internal/sync.Mutex).Unlock", "internal/race.ReleaseMerge", "(*internal/sync.Mutex).unlockSlow", "internal/sync.fatal", "internal/sync.runtime_Semrelease", "sync/atomic.StoreUint32", "slices.overlaps[int]"], unfollowed := true, recurses := true, plainKeys := false, apart := false }
def WoodCountsSaid : Prop := woodCountsRow.holds Tryz.pinned (OpenSpec.ofChange woodCountsSpec)

/-- ITS FALSE NEIGHBOUR: 'it returns false'. Refute it at one input. -/
def woodCountsWrong : ChangeSpec := { name := "woodCounts", fn := fun _ => fun
  | [d1, d2, d3] => { results := [.lit (.bool false)], args := [d1, d2, d3] }
  | _ => none }
def WoodCountsWrongFalsely : Prop := woodCountsRow.holds Tryz.pinned (OpenSpec.ofChange woodCountsWrong)

/-- 'parquetrylaw15.WoodTrees': WHATEVER THE INPUT: true; the input reads as it did. -/
def woodTreesSpec : ChangeSpec := { name := "woodTrees", fn := fun _ => fun
  | [d1, d2, d3] => { results := [.lit (.bool true)], args := [d1, d2, d3] }
  | _ => none }
def woodTreesRow : OpenClaim := { program := "ytcnmbenfnpjkjaagreat", sum := "4af4494f4e8941c66b77eb9b22aa28209d7a134c32c3ee396312f5aa26c6fefb", func := "parquetry/parquetrylaw15.WoodTrees", spec := "woodTrees", inPlace := ["sync/atomic.LoadUint32", "(*internal/sync.Mutex).Lock", "internal/race.Disable", "sync/atomic.CompareAndSwapInt32", "internal/race.Enable", "internal/race.Acquire", "(*internal/sync.Mutex).lockSlow", "internal/sync.runtime_canSpin", "internal/sync.runtime_doSpin", "internal/sync.throw", "internal/sync.runtime_nanotime", "internal/sync.runtime_SemacquireMutex", "sync/atomic.AddInt32", "(*internal/sync.Mutex).Unlock", "internal/race.ReleaseMerge", "(*internal/sync.Mutex).unlockSlow", "internal/sync.fatal", "internal/sync.runtime_Semrelease", "sync/atomic.StoreUint32", "slices.overlaps[int]"], unfollowed := true, recurses := true, plainKeys := false, apart := false }
def WoodTreesSaid : Prop := woodTreesRow.holds Tryz.pinned (OpenSpec.ofChange woodTreesSpec)

/-- ITS FALSE NEIGHBOUR: 'it returns false'. Refute it at one input. -/
def woodTreesWrong : ChangeSpec := { name := "woodTrees", fn := fun _ => fun
  | [d1, d2, d3] => { results := [.lit (.bool false)], args := [d1, d2, d3] }
  | _ => none }
def WoodTreesWrongFalsely : Prop := woodTreesRow.holds Tryz.pinned (OpenSpec.ofChange woodTreesWrong)

/- THE SECOND FORM. 'bulk': how many values and letters a reading holds, each counted each time it is reached (what is shared counts as often as it is met; a slice's spare places count too). A statement '..UptoSaid' is the law's where the arguments, and the package variables that the reading takes, are together of bulk at most 1048576: NARROWER than '..Said'. Prove '..Said' where nothing that the law and all that it calls make is longer than what came in: it says more and counts as full. Else prove '..UptoSaid'. A law counts once. -/
mutual
def uptoBulk {H : Type} : DataW H → Nat
  | .lit (.string bytes) => bytes.length + 1
  | .lit _ => 1
  | .nil => 1
  | .ptr d => uptoBulk d + 1
  | .slice elems spare => uptoBulkAll elems + uptoBulkAll spare + 1
  | .agg parts => uptoBulkAll parts + 1
  | .iface _ d => uptoBulk d + 1
  | .map entries => uptoBulkEntries entries + 1
  | .held _ => 1
def uptoBulkAll {H : Type} : List (DataW H) → Nat
  | [] => 0
  | d :: r => uptoBulk d + uptoBulkAll r
def uptoBulkEntries {H : Type} : List (Lit × DataW H) → Nat
  | [] => 0
  | x :: r => uptoBulkEntry x + uptoBulkEntries r
def uptoBulkEntry {H : Type} : Lit × DataW H → Nat
  | (.string bytes, d) => bytes.length + uptoBulk d + 1
  | (_, d) => uptoBulk d + 1
 end
def uptoSmall : (H : Type) → List (DataW H) → Bool := fun _ ds => decide (uptoBulkAll ds ≤ 1048576)
def OpenSpec.upto (s : _root_.Go.ChangeSpec) : _root_.Go.OpenSpec := { _root_.Go.OpenSpec.ofChange s with cond := some uptoSmall }

/-- 'parquetrylaw14.ShellOrders', WHERE WHAT IT READS IS OF BULK AT MOST 1048576: true; the input reads as it did. -/
def shellOrdersUptoRow : OpenClaim := { program := "ytcnmbenfnpjkjaagreat", sum := "4af4494f4e8941c66b77eb9b22aa28209d7a134c32c3ee396312f5aa26c6fefb", func := "parquetry/parquetrylaw14.ShellOrders", spec := "shellOrders", inPlace := ["sync/atomic.LoadUint32", "(*internal/sync.Mutex).Lock", "internal/race.Disable", "sync/atomic.CompareAndSwapInt32", "internal/race.Enable", "internal/race.Acquire", "(*internal/sync.Mutex).lockSlow", "internal/sync.runtime_canSpin", "internal/sync.runtime_doSpin", "internal/sync.throw", "internal/sync.runtime_nanotime", "internal/sync.runtime_SemacquireMutex", "sync/atomic.AddInt32", "(*internal/sync.Mutex).Unlock", "internal/race.ReleaseMerge", "(*internal/sync.Mutex).unlockSlow", "internal/sync.fatal", "internal/sync.runtime_Semrelease", "sync/atomic.StoreUint32", "slices.overlaps[int]"], unfollowed := true, recurses := true, plainKeys := false, apart := false, narrowed := true }
def ShellOrdersUptoSaid : Prop := shellOrdersUptoRow.holds Tryz.pinned (OpenSpec.upto shellOrdersSpec)

/-- 'parquetrylaw14.ShellNo', WHERE WHAT IT READS IS OF BULK AT MOST 1048576: true; the input reads as it did. -/
def shellNoUptoRow : OpenClaim := { program := "ytcnmbenfnpjkjaagreat", sum := "4af4494f4e8941c66b77eb9b22aa28209d7a134c32c3ee396312f5aa26c6fefb", func := "parquetry/parquetrylaw14.ShellNo", spec := "shellNo", inPlace := ["sync/atomic.LoadUint32", "(*internal/sync.Mutex).Lock", "internal/race.Disable", "sync/atomic.CompareAndSwapInt32", "internal/race.Enable", "internal/race.Acquire", "(*internal/sync.Mutex).lockSlow", "internal/sync.runtime_canSpin", "internal/sync.runtime_doSpin", "internal/sync.throw", "internal/sync.runtime_nanotime", "internal/sync.runtime_SemacquireMutex", "sync/atomic.AddInt32", "(*internal/sync.Mutex).Unlock", "internal/race.ReleaseMerge", "(*internal/sync.Mutex).unlockSlow", "internal/sync.fatal", "internal/sync.runtime_Semrelease", "sync/atomic.StoreUint32", "slices.overlaps[int]"], unfollowed := true, recurses := true, plainKeys := false, apart := false, narrowed := true }
def ShellNoUptoSaid : Prop := shellNoUptoRow.holds Tryz.pinned (OpenSpec.upto shellNoSpec)

/-- 'parquetrylaw15.WoodPaths', WHERE WHAT IT READS IS OF BULK AT MOST 1048576: true; the input reads as it did. -/
def woodPathsUptoRow : OpenClaim := { program := "ytcnmbenfnpjkjaagreat", sum := "4af4494f4e8941c66b77eb9b22aa28209d7a134c32c3ee396312f5aa26c6fefb", func := "parquetry/parquetrylaw15.WoodPaths", spec := "woodPaths", inPlace := ["sync/atomic.LoadUint32", "(*internal/sync.Mutex).Lock", "internal/race.Disable", "sync/atomic.CompareAndSwapInt32", "internal/race.Enable", "internal/race.Acquire", "(*internal/sync.Mutex).lockSlow", "internal/sync.runtime_canSpin", "internal/sync.runtime_doSpin", "internal/sync.throw", "internal/sync.runtime_nanotime", "internal/sync.runtime_SemacquireMutex", "sync/atomic.AddInt32", "(*internal/sync.Mutex).Unlock", "internal/race.ReleaseMerge", "(*internal/sync.Mutex).unlockSlow", "internal/sync.fatal", "internal/sync.runtime_Semrelease", "sync/atomic.StoreUint32", "slices.overlaps[int]"], unfollowed := true, recurses := true, plainKeys := false, apart := false, narrowed := true }
def WoodPathsUptoSaid : Prop := woodPathsUptoRow.holds Tryz.pinned (OpenSpec.upto woodPathsSpec)

/-- 'parquetrylaw15.WoodCounts', WHERE WHAT IT READS IS OF BULK AT MOST 1048576: true; the input reads as it did. -/
def woodCountsUptoRow : OpenClaim := { program := "ytcnmbenfnpjkjaagreat", sum := "4af4494f4e8941c66b77eb9b22aa28209d7a134c32c3ee396312f5aa26c6fefb", func := "parquetry/parquetrylaw15.WoodCounts", spec := "woodCounts", inPlace := ["sync/atomic.LoadUint32", "(*internal/sync.Mutex).Lock", "internal/race.Disable", "sync/atomic.CompareAndSwapInt32", "internal/race.Enable", "internal/race.Acquire", "(*internal/sync.Mutex).lockSlow", "internal/sync.runtime_canSpin", "internal/sync.runtime_doSpin", "internal/sync.throw", "internal/sync.runtime_nanotime", "internal/sync.runtime_SemacquireMutex", "sync/atomic.AddInt32", "(*internal/sync.Mutex).Unlock", "internal/race.ReleaseMerge", "(*internal/sync.Mutex).unlockSlow", "internal/sync.fatal", "internal/sync.runtime_Semrelease", "sync/atomic.StoreUint32", "slices.overlaps[int]"], unfollowed := true, recurses := true, plainKeys := false, apart := false, narrowed := true }
def WoodCountsUptoSaid : Prop := woodCountsUptoRow.holds Tryz.pinned (OpenSpec.upto woodCountsSpec)

/-- 'parquetrylaw15.WoodTrees', WHERE WHAT IT READS IS OF BULK AT MOST 1048576: true; the input reads as it did. -/
def woodTreesUptoRow : OpenClaim := { program := "ytcnmbenfnpjkjaagreat", sum := "4af4494f4e8941c66b77eb9b22aa28209d7a134c32c3ee396312f5aa26c6fefb", func := "parquetry/parquetrylaw15.WoodTrees", spec := "woodTrees", inPlace := ["sync/atomic.LoadUint32", "(*internal/sync.Mutex).Lock", "internal/race.Disable", "sync/atomic.CompareAndSwapInt32", "internal/race.Enable", "internal/race.Acquire", "(*internal/sync.Mutex).lockSlow", "internal/sync.runtime_canSpin", "internal/sync.runtime_doSpin", "internal/sync.throw", "internal/sync.runtime_nanotime", "internal/sync.runtime_SemacquireMutex", "sync/atomic.AddInt32", "(*internal/sync.Mutex).Unlock", "internal/race.ReleaseMerge", "(*internal/sync.Mutex).unlockSlow", "internal/sync.fatal", "internal/sync.runtime_Semrelease", "sync/atomic.StoreUint32", "slices.overlaps[int]"], unfollowed := true, recurses := true, plainKeys := false, apart := false, narrowed := true }
def WoodTreesUptoSaid : Prop := woodTreesUptoRow.holds Tryz.pinned (OpenSpec.upto woodTreesSpec)

end Rows
end Go.Proofs.YtcnmbenfnpjkjaaGreat
