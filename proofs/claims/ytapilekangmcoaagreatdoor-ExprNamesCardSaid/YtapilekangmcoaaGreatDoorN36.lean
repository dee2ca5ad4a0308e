/- The walks of value.Compare and of what it asks. -/
import Derived.Laws.Cover1
import Derived.Test.YtapilekangmcoaaGreatDoorN23
import Derived.Test.YtapilekangmcoaaGreatDoorN22
set_option linter.unusedVariables false
set_option linter.unusedSimpArgs false
set_option maxHeartbeats 8000000
set_option maxRecDepth 100000
namespace Go.Proofs.YtapilekangmcoaaGreatDoor
open Go.RowKit
theorem bl_eq : ∀ (x y : List UInt8), Op.bytesLess x y = decide (x < y)
 | [], [] => by simp [Op.bytesLess]
 | _ :: _, [] => by simp [Op.bytesLess]
 | [], _ :: _ => by simp [Op.bytesLess]
 | a :: x, b :: y => by
   rw [Op.bytesLess, bl_eq x y, Bool.eq_iff_iff]
   simp [List.cons_lt_cons_iff]
end Go.Proofs.YtapilekangmcoaaGreatDoor
