/-
  NARROWER THAN 'FOR EVERY INPUT', by the rows' own cells (each row's printed sentence says how): WoodMakes: laid · WoodOf: laid · WoodNo: laid.
  DERIVED. THE GIVEN ROWS OF THIS SEAT. 3 by the template 'for every input the law returns true; each argument reads behind the call as it read before'; 0 by the template 'total and deterministic' (their statements: YtgphnkkdmlohlaaGreatDoorTotals.lean).
  GIVEN WITH THE SEED: the statements are not yours to turn. If you find one false, say at which input.
  Laid BY PROGRAM, IN A SANDBOX (cutbox-rows.mjs): the forced cells as the released guide's own fill.sh prints them over the translation 1b913bfa1aa3d6d1… (all of the seat's roots in one cut). By AI agents, Wed Nov 11 2026. No macro, syntax, notation, axiom, sorry.
-/
import Derived.Test.YtgphnkkdmlohlaaGreatDoorChecked
import GoSem.Claim
import GoSem.ClaimJoined
import GoSem.ClaimMapViews
import Derived.JoinedTies
import Derived.KernelRfl
namespace Go.Proofs.YtgphnkkdmlohlaaGreatDoor
/- THE CELL 'sum', in the pinned program and in every row, IS THE sha256 OF THE DUMP (.gsa) THAT YtgphnkkdmlohlaaGreatDoorProg.lean LOADS. Nothing in Lean hashes anything: it is a label: what it is worth is what the hold of that sum in a sandbox is worth. -/
noncomputable def Tryz.pinned : Pinned := { name := "ytgphnkkdmlohlaagreatdoor", sum := "1b913bfa1aa3d6d139a8c8a989ff9357ab80945824dcc53ff096d51e7baf6d1f", checked := Tryz.checked }
namespace Rows
def none {H : Type} : Left H := { results := [], args := [] }

/- WHAT THE LISTED PACKAGE-LEVEL VARIABLES READ AS WHEN THE CALL BEGINS. Each datum BY PROGRAM (the guide's laid-datum.mjs) off the statement by which the dump's own 'gosem.cut.vars' lays the variable. In a bare row this is a premise. The card (YtgphnkkdmlohlaaGreatDoorCards.lean) ties it to the program's text. -/
def laid_parquetry_wood_order {H : Type} : DataW H := .agg [.agg [.lit (.bool true), .lit (.int .i64 0)], .agg [.lit (.bool false), .lit (.int .i64 2)], .agg [.lit (.bool true), .lit (.int .i64 1)], .agg [.lit (.bool false), .lit (.int .i64 0)], .agg [.lit (.bool true), .lit (.int .i64 2)], .agg [.lit (.bool false), .lit (.int .i64 1)]]

/-- 'parquetrylaw15.WoodMakes': WHATEVER THE INPUT: true; the input reads as it did. -/
def woodMakesSpec : ChangeSpec := { name := "woodMakes", fn := fun _ => fun
  | [d1, d2, d3, d4, d5] => { results := [.lit (.bool true)], args := [d1, d2, d3, d4, d5] }
  | _ => none }
def woodMakesRow : OpenClaim := { program := "ytgphnkkdmlohlaagreatdoor", sum := "1b913bfa1aa3d6d139a8c8a989ff9357ab80945824dcc53ff096d51e7baf6d1f", func := "parquetry/parquetrylaw15.WoodMakes", spec := "woodMakes", inPlace := ["sync/atomic.LoadUint32", "(*internal/sync.Mutex).Lock", "internal/race.Disable", "sync/atomic.CompareAndSwapInt32", "internal/race.Enable", "internal/race.Acquire", "(*internal/sync.Mutex).lockSlow", "internal/sync.runtime_canSpin", "internal/sync.runtime_doSpin", "internal/sync.throw", "internal/sync.runtime_nanotime", "internal/sync.runtime_SemacquireMutex", "sync/atomic.AddInt32", "(*internal/sync.Mutex).Unlock", "internal/race.ReleaseMerge", "(*internal/sync.Mutex).unlockSlow", "internal/sync.fatal", "internal/sync.runtime_Semrelease", "sync/atomic.StoreUint32", "slices.overlaps[int]"], unfollowed := true, recurses := true, named := ["parquetry/wood.order"], plainKeys := false, apart := false, laid := [("parquetry/wood.order", laid_parquetry_wood_order)] }
def WoodMakesSaid : Prop := woodMakesRow.holds Tryz.pinned (OpenSpec.ofChange woodMakesSpec)

/-- ITS FALSE NEIGHBOUR: 'it returns false'. Refute it at one input. -/
def woodMakesWrong : ChangeSpec := { name := "woodMakes", fn := fun _ => fun
  | [d1, d2, d3, d4, d5] => { results := [.lit (.bool false)], args := [d1, d2, d3, d4, d5] }
  | _ => none }
def WoodMakesWrongFalsely : Prop := woodMakesRow.holds Tryz.pinned (OpenSpec.ofChange woodMakesWrong)

/-- 'parquetrylaw15.WoodOf': WHATEVER THE INPUT: true; the input reads as it did. -/
def woodOfSpec : ChangeSpec := { name := "woodOf", fn := fun _ => fun
  | [d1, d2, d3] => { results := [.lit (.bool true)], args := [d1, d2, d3] }
  | _ => none }
def woodOfRow : OpenClaim := { program := "ytgphnkkdmlohlaagreatdoor", sum := "1b913bfa1aa3d6d139a8c8a989ff9357ab80945824dcc53ff096d51e7baf6d1f", func := "parquetry/parquetrylaw15.WoodOf", spec := "woodOf", inPlace := ["sync/atomic.LoadUint32", "(*internal/sync.Mutex).Lock", "internal/race.Disable", "sync/atomic.CompareAndSwapInt32", "internal/race.Enable", "internal/race.Acquire", "(*internal/sync.Mutex).lockSlow", "internal/sync.runtime_canSpin", "internal/sync.runtime_doSpin", "internal/sync.throw", "internal/sync.runtime_nanotime", "internal/sync.runtime_SemacquireMutex", "sync/atomic.AddInt32", "(*internal/sync.Mutex).Unlock", "internal/race.ReleaseMerge", "(*internal/sync.Mutex).unlockSlow", "internal/sync.fatal", "internal/sync.runtime_Semrelease", "sync/atomic.StoreUint32", "slices.overlaps[int]"], unfollowed := true, recurses := true, named := ["parquetry/wood.order"], plainKeys := false, apart := false, laid := [("parquetry/wood.order", laid_parquetry_wood_order)] }
def WoodOfSaid : Prop := woodOfRow.holds Tryz.pinned (OpenSpec.ofChange woodOfSpec)

/-- ITS FALSE NEIGHBOUR: 'it returns false'. Refute it at one input. -/
def woodOfWrong : ChangeSpec := { name := "woodOf", fn := fun _ => fun
  | [d1, d2, d3] => { results := [.lit (.bool false)], args := [d1, d2, d3] }
  | _ => none }
def WoodOfWrongFalsely : Prop := woodOfRow.holds Tryz.pinned (OpenSpec.ofChange woodOfWrong)

/-- 'parquetrylaw15.WoodNo': WHATEVER THE INPUT: true; the input reads as it did. -/
def woodNoSpec : ChangeSpec := { name := "woodNo", fn := fun _ => fun
  | [d1, d2, d3, d4, d5] => { results := [.lit (.bool true)], args := [d1, d2, d3, d4, d5] }
  | _ => none }
def woodNoRow : OpenClaim := { program := "ytgphnkkdmlohlaagreatdoor", sum := "1b913bfa1aa3d6d139a8c8a989ff9357ab80945824dcc53ff096d51e7baf6d1f", func := "parquetry/parquetrylaw15.WoodNo", spec := "woodNo", inPlace := ["sync/atomic.LoadUint32", "(*internal/sync.Mutex).Lock", "internal/race.Disable", "sync/atomic.CompareAndSwapInt32", "internal/race.Enable", "internal/race.Acquire", "(*internal/sync.Mutex).lockSlow", "internal/sync.runtime_canSpin", "internal/sync.runtime_doSpin", "internal/sync.throw", "internal/sync.runtime_nanotime", "internal/sync.runtime_SemacquireMutex", "sync/atomic.AddInt32", "(*internal/sync.Mutex).Unlock", "internal/race.ReleaseMerge", "(*internal/sync.Mutex).unlockSlow", "internal/sync.fatal", "internal/sync.runtime_Semrelease", "sync/atomic.StoreUint32", "slices.overlaps[int]"], unfollowed := true, recurses := true, named := ["parquetry/wood.order"], plainKeys := false, apart := false, laid := [("parquetry/wood.order", laid_parquetry_wood_order)] }
def WoodNoSaid : Prop := woodNoRow.holds Tryz.pinned (OpenSpec.ofChange woodNoSpec)

/-- ITS FALSE NEIGHBOUR: 'it returns false'. Refute it at one input. -/
def woodNoWrong : ChangeSpec := { name := "woodNo", fn := fun _ => fun
  | [d1, d2, d3, d4, d5] => { results := [.lit (.bool false)], args := [d1, d2, d3, d4, d5] }
  | _ => none }
def WoodNoWrongFalsely : Prop := woodNoRow.holds Tryz.pinned (OpenSpec.ofChange woodNoWrong)

/- THE SECOND FORM. 'bulk': how many values and letters a reading holds, each counted each time it is reached (what is shared counts as often as it is met; a slice's spare places count too). A statement '..UptoSaid' is the law's where the arguments, and the package variables that the reading takes, are together of bulk at most 1048576: NARROWER than '..Said'. Prove '..Said' where nothing that the law and all that it calls make is longer than what came in: it says more and counts as full. Else prove '..UptoSaid'. A law counts once. -/
mutual
def uptoBulk {H : Type} : DataW H → Nat
  | .lit (.string bytes) => bytes.length + 1
  | .lit _ => 1
  | .nil => 1
  | .ptr d => uptoBulk d + 1
  | .slice elems spare => uptoBulkAll elems + uptoBulkAll spare + 1
  | .agg parts => uptoBulkAll parts + 1
  | .iface _ d => uptoBulk d + 1
  | .map entries => uptoBulkEntries entries + 1
  | .held _ => 1
def uptoBulkAll {H : Type} : List (DataW H) → Nat
  | [] => 0
  | d :: r => uptoBulk d + uptoBulkAll r
def uptoBulkEntries {H : Type} : List (Lit × DataW H) → Nat
  | [] => 0
  | x :: r => uptoBulkEntry x + uptoBulkEntries r
def uptoBulkEntry {H : Type} : Lit × DataW H → Nat
  | (.string bytes, d) => bytes.length + uptoBulk d + 1
  | (_, d) => uptoBulk d + 1
 end
def uptoSmall : (H : Type) → List (DataW H) → Bool := fun _ ds => decide (uptoBulkAll ds ≤ 1048576)
def OpenSpec.upto (s : _root_.Go.ChangeSpec) : _root_.Go.OpenSpec := { _root_.Go.OpenSpec.ofChange s with cond := some uptoSmall }

/-- 'parquetrylaw15.WoodMakes', WHERE WHAT IT READS IS OF BULK AT MOST 1048576: true; the input reads as it did. -/
def woodMakesUptoRow : OpenClaim := { program := "ytgphnkkdmlohlaagreatdoor", sum := "1b913bfa1aa3d6d139a8c8a989ff9357ab80945824dcc53ff096d51e7baf6d1f", func := "parquetry/parquetrylaw15.WoodMakes", spec := "woodMakes", inPlace := ["sync/atomic.LoadUint32", "(*internal/sync.Mutex).Lock", "internal/race.Disable", "sync/atomic.CompareAndSwapInt32", "internal/race.Enable", "internal/race.Acquire", "(*internal/sync.Mutex).lockSlow", "internal/sync.runtime_canSpin", "internal/sync.runtime_doSpin", "internal/sync.throw", "internal/sync.runtime_nanotime", "internal/sync.runtime_SemacquireMutex", "sync/atomic.AddInt32", "(*internal/sync.Mutex).Unlock", "internal/race.ReleaseMerge", "(*internal/sync.Mutex).unlockSlow", "internal/sync.fatal", "internal/sync.runtime_Semrelease", "sync/atomic.StoreUint32", "slices.overlaps[int]"], unfollowed := true, recurses := true, named := ["parquetry/wood.order"], plainKeys := false, apart := false, laid := [("parquetry/wood.order", laid_parquetry_wood_order)], narrowed := true }
def WoodMakesUptoSaid : Prop := woodMakesUptoRow.holds Tryz.pinned (OpenSpec.upto woodMakesSpec)

/-- 'parquetrylaw15.WoodOf', WHERE WHAT IT READS IS OF BULK AT MOST 1048576: true; the input reads as it did. -/
def woodOfUptoRow : OpenClaim := { program := "ytgphnkkdmlohlaagreatdoor", sum := "1b913bfa1aa3d6d139a8c8a989ff9357ab80945824dcc53ff096d51e7baf6d1f", func := "parquetry/parquetrylaw15.WoodOf", spec := "woodOf", inPlace := ["sync/atomic.LoadUint32", "(*internal/sync.Mutex).Lock", "internal/race.Disable", "sync/atomic.CompareAndSwapInt32", "internal/race.Enable", "internal/race.Acquire", "(*internal/sync.Mutex).lockSlow", "internal/sync.runtime_canSpin", "internal/sync.runtime_doSpin", "internal/sync.throw", "internal/sync.runtime_nanotime", "internal/sync.runtime_SemacquireMutex", "sync/atomic.AddInt32", "(*internal/sync.Mutex).Unlock", "internal/race.ReleaseMerge", "(*internal/sync.Mutex).unlockSlow", "internal/sync.fatal", "internal/sync.runtime_Semrelease", "sync/atomic.StoreUint32", "slices.overlaps[int]"], unfollowed := true, recurses := true, named := ["parquetry/wood.order"], plainKeys := false, apart := false, laid := [("parquetry/wood.order", laid_parquetry_wood_order)], narrowed := true }
def WoodOfUptoSaid : Prop := woodOfUptoRow.holds Tryz.pinned (OpenSpec.upto woodOfSpec)

/-- 'parquetrylaw15.WoodNo', WHERE WHAT IT READS IS OF BULK AT MOST 1048576: true; the input reads as it did. -/
def woodNoUptoRow : OpenClaim := { program := "ytgphnkkdmlohlaagreatdoor", sum := "1b913bfa1aa3d6d139a8c8a989ff9357ab80945824dcc53ff096d51e7baf6d1f", func := "parquetry/parquetrylaw15.WoodNo", spec := "woodNo", inPlace := ["sync/atomic.LoadUint32", "(*internal/sync.Mutex).Lock", "internal/race.Disable", "sync/atomic.CompareAndSwapInt32", "internal/race.Enable", "internal/race.Acquire", "(*internal/sync.Mutex).lockSlow", "internal/sync.runtime_canSpin", "internal/sync.runtime_doSpin", "internal/sync.throw", "internal/sync.runtime_nanotime", "internal/sync.runtime_SemacquireMutex", "sync/atomic.AddInt32", "(*internal/sync.Mutex).Unlock", "internal/race.ReleaseMerge", "(*internal/sync.Mutex).unlockSlow", "internal/sync.fatal", "internal/sync.runtime_Semrelease", "sync/atomic.StoreUint32", "slices.overlaps[int]"], unfollowed := true, recurses := true, named := ["parquetry/wood.order"], plainKeys := false, apart := false, laid := [("parquetry/wood.order", laid_parquetry_wood_order)], narrowed := true }
def WoodNoUptoSaid : Prop := woodNoUptoRow.holds Tryz.pinned (OpenSpec.upto woodNoSpec)

end Rows
end Go.Proofs.YtgphnkkdmlohlaaGreatDoor
