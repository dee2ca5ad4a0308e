/- The walks of the reference's rows of digits: digits, plus. The walk of the reference's dec: a row of digits, rounded, as a number. -/
import Derived.Deep.LoopGhost
import Derived.Deep.OwnRows
import Derived.Test.YtapilekangmcoaaGreatDoorN1
import Derived.Test.YtapilekangmcoaaGreatDoorN10
set_option linter.unusedVariables false
set_option linter.unusedSimpArgs false
set_option maxHeartbeats 8000000
set_option maxRecDepth 100000
namespace Go.Proofs.YtapilekangmcoaaGreatDoor
open Go.RowKit
/-- A row of digits of X in memory. -/
def Row (w : World) (g o n X : Nat) : Prop := ∀ j, j < n → w.cell? ⟨g, o + j, none⟩ = some (.int .i64 (dig X j))
theorem Row.step {w w' : World} {g o n X : Nat} (h : Row w g o n X) (hb : Below w.heap.size w w') : Row w' g o n X := fun j hj => keep1 hb (h j hj)
theorem Row.of_blk {w : World} {g n X : Nat} {T : TypeId} (h : Blk w g T (rowA X n)) : Row w g 0 n X := fun j hj => by rw [h.cell, Nat.zero_add, rowA_get _ hj]
theorem Row.drop {w : World} {g o n X : Nat} (h : Row w g o n X) (k : Nat) (hk : k ≤ n) : Row w g (o + k) (n - k) (X / 10 ^ k) := fun j hj => by
 rw [Nat.add_assoc, h (k + j) (by omega), dig_div, Nat.add_comm]
end Go.Proofs.YtapilekangmcoaaGreatDoor
namespace Go.Proofs.YtapilekangmcoaaGreatDoor
open Go.RowKit
end Go.Proofs.YtapilekangmcoaaGreatDoor
