/- strings.Builder: String (laid by the kit's lay-shelf and lay-plain, its numbers by name), WriteByte; mixed.Word's text. -/
import Derived.Shelf.Strings.Builder1
import Derived.Test.YtgphnkkdmlohlaaGreatDoorZWoodNo33
import Derived.Test.YtgphnkkdmlohlaaGreatDoorZWoodNo17
import Derived.Lib.SliceRun
namespace Go.Proofs.YtgphnkkdmlohlaaGreatDoor
section
open Go.RowKit Go.Shelf
set_option linter.unusedVariables false
def letter (k:Int):UInt8:=if k=0 then 40 else if k=1 then 41 else if k=2 then 91 else 93
end
section
open Go.RowKit
set_option linter.unusedVariables false
theorem zero_int (w:World):(zeroValue 3).run Tryz.prog w=.ok (.int .i64 0) w:=by kernel_rfl
end
end Go.Proofs.YtgphnkkdmlohlaaGreatDoor
